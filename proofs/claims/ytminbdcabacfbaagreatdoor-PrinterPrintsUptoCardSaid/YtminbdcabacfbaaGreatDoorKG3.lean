/- (*text).mark: a mark of one byte, or of two. One thing is appended to a row that the call owns. Rows of things in memory: their cells; a list of bytes as a string. (*text).quoted: a name in marks. (*text).one: the token at a place. token.Scan: a text's tokens. Lists of tokens in memory. -/
import Derived.Laws.AppendOwn
import Derived.OwnWalk
import Derived.Maps.AppendAt
import Derived.Lib.Walk
import Derived.Lib.SlBytesRow
import Derived.Lib.BufferRead
import Derived.BigQuiet
import Derived.Deep.QuietTactic
import Derived.Test.YtminbdcabacfbaaGreatDoorKG2
namespace Go.Proofs.YtminbdcabacfbaaGreatDoor.V
set_option linter.unusedVariables false
set_option linter.unusedSimpArgs false
open Go.RowKit

theorem en_two : ∀ args w, (callFunc 154 args).run Tryz.prog w = .ok (.enter 154 args) w := enters_of Tryz.func154 (by kernel_rfl) rfl
theorem two_calls (R : Nat) (r p : ByteArray) (w : World) (hR : w.cell? ⟨R, 0, none⟩ = some (.string r)) :
    Calls Tryz.prog 154 #[.string p, .pointer (some ⟨R, 0, none⟩)] w fun e w' => e = .returned (.bool (Lib.hasPrefix r.data.toList p.data.toList)) ∧ w' = w := by
  go_enter Tryz.func154, Tryz.ntmps154
  go_wp2_with (go_at_call 123; (with_reducible refine (Tryz.strings_HasPrefix _ _ _).mono ?_); rintro e w' ⟨rfl, rfl⟩)
  go_ret
  exact ⟨rfl, rfl⟩
def marks4 : List ByteArray := [⟨#[58, 45]⟩, ⟨#[60, 61]⟩, ⟨#[62, 61]⟩, ⟨#[33, 61]⟩]
theorem any_two (l : List UInt8) : ((marks4.take 4).any fun t => Lib.hasPrefix l t.data.toList) = markTwo l := by
  unfold markTwo marks4 Lib.hasPrefix
  simp [Bool.or_assoc]
theorem contains_calls (R b : Nat) (r : ByteArray) (w : World) (hR : w.cell? ⟨R, 0, none⟩ = some (.string r)) (hb : w.heap[b]? = some (.cells #[.string ⟨#[58, 45]⟩, .string ⟨#[60, 61]⟩, .string ⟨#[62, 61]⟩, .string ⟨#[33, 61]⟩] 9 (0, 0))) :
    Calls Tryz.prog 153 #[.slice (some ⟨b, 0, none⟩) 4 4, .func (.func 154) #[] #[.pointer (some ⟨R, 0, none⟩)]] w fun e w' =>
      e = .returned (.bool (markTwo r.data.toList)) ∧ Below w.heap.size w w' := by
  rw [← any_two]
  refine Calls.mono (R := fun e w' => e = .returned (.bool ((marks4.take 4).any fun t => Lib.hasPrefix r.data.toList t.data.toList)) ∧ ∃ q, w' = w.drewN q) ?_ (fun e w' h => ⟨h.1, by obtain ⟨q, rfl⟩ := h.2; exact below_drewN' (Below.refl _ _) q⟩)
  refine Tryz.slices_ContainsFunc Value.string _ 154 _ en_two b 0 4 4 marks4 w ?_ (by decide) (by decide) ?_
  · intro W x hbel
    refine (two_calls R r x W (cell_below hbel hR)).mono ?_
    rintro e w' ⟨rfl, rfl⟩
    exact ⟨rfl, 0, rfl⟩
  · intro j hj
    match j, hj with
    | 0, _ => exact cell_of_row w b 0 _ _ _ hb
    | 1, _ => exact cell_of_row w b 1 _ _ _ hb
    | 2, _ => exact cell_of_row w b 2 _ _ _ hb
    | 3, _ => exact cell_of_row w b 3 _ _ _ hb
theorem index_one (c : UInt8) : decide (Lib.indexByte [40, 41, 44, 46, 47, 60, 62, 61] c < 0) = !markOne c := by
  unfold markOne
  simp only [Lib.indexByte]
  by_cases h1 : c = 40
  · subst h1; decide
  · by_cases h2 : c = 41
    · subst h2; decide
    · by_cases h3 : c = 44
      · subst h3; decide
      · by_cases h4 : c = 46
        · subst h4; decide
        · by_cases h5 : c = 47
          · subst h5; decide
          · by_cases h6 : c = 60
            · subst h6; decide
            · by_cases h7 : c = 62
              · subst h7; decide
              · by_cases h8 : c = 61
                · subst h8; decide
                · have e1 : (40 == c) = false := by simpa using Ne.symm h1
                  have e2 : (41 == c) = false := by simpa using Ne.symm h2
                  have e3 : (44 == c) = false := by simpa using Ne.symm h3
                  have e4 : (46 == c) = false := by simpa using Ne.symm h4
                  have e5 : (47 == c) = false := by simpa using Ne.symm h5
                  have e6 : (60 == c) = false := by simpa using Ne.symm h6
                  have e7 : (62 == c) = false := by simpa using Ne.symm h7
                  have e8 : (61 == c) = false := by simpa using Ne.symm h8
                  simp [e1, e2, e3, e4, e5, e6, e7, e8, h1, h2, h3, h4, h5, h6, h7, h8]

theorem two_len {r : ByteArray} (h : markTwo r.data.toList = true) : 2 ≤ r.size := by
  have hl : r.data.toList.length = r.size := by simp
  match hL : r.data.toList with
  | [] => rw [hL] at h; simp [markTwo] at h
  | [c] => rw [hL] at h; simp [markTwo, List.isPrefixOf] at h
  | _ :: _ :: _ => rw [hL] at hl; simp at hl; omega
/-- What the scanner of marks has laid: the token's block, the rest's. -/
structure MarkW (X : Nat) (s : ByteArray) (a : Nat) (r : ByteArray) (w W : World) : Prop where
  x : IsText X s a W
  k : IsTok w.heap.size (.int .i64 0) (.string ⟨#[]⟩) (.int .i64 0) (.bool false) (.int .i64 0) W
  r : W.cell? ⟨w.heap.size + 1, 0, none⟩ = some (.string r)
  g : w.grownBy W (some X)
theorem MarkW.start {X : Nat} {s : ByteArray} {a : Nat} {w : World} (h : IsText X s a w) (r : ByteArray) : MarkW X s a r w ((w.alloc (.cells #[.int .i64 0, .string ⟨#[]⟩, .int .i64 0, .bool false, .int .i64 0] 71)).alloc (.cells #[.string r] 9)).drew where
  x := ((h.grown (World.grownBy_alloc _ _ none) (by simp)).grown (World.grownBy_alloc _ _ none) (by simp)).drew
  k := ((IsTok.new w).grown (row := none) (World.grownBy_alloc _ (.cells #[.string r] 9) none) (by simp)).grown (row := none) (grown_drew (World.grownBy.refl _ _)) (by simp)
  r := by
    have := cell_of_row _ _ 0 _ _ _ (heap_alloc_new (w.alloc (.cells #[.int .i64 0, .string ⟨#[]⟩, .int .i64 0, .bool false, .int .i64 0] 71)) (.cells #[.string r] 9))
    rw [show (w.alloc (.cells #[.int .i64 0, .string ⟨#[]⟩, .int .i64 0, .bool false, .int .i64 0] 71)).heap.size = w.heap.size + 1 by simp] at this
    exact this
  g := grown_drew (grown_trans (World.grownBy_alloc _ _ _) (World.grownBy_alloc _ _ _))
theorem MarkW.below {X : Nat} {s : ByteArray} {a : Nat} {r : ByteArray} {w W W' : World} (h : MarkW X s a r w W) (hb : Below W.heap.size W W') : MarkW X s a r w W' :=
  ⟨h.x.grown (grown_below hb none) (by simp), h.k.grown (grown_below hb none) (by simp), cell_below hb h.r, grown_trans h.g (grown_below hb _)⟩

set_option maxRecDepth 100000 in
theorem mark_calls (X : Nat) (s : ByteArray) (a : Nat) (w : World) (hT : IsText X s a w) (ha : a < s.size) (hs : s.size ≤ 65536) :
    Calls Tryz.prog 125 #[.pointer (some ⟨X, 0, none⟩)] w (OneIs X s (markL (s.data.toList.drop a)) w) := by
  have hlt := hT.lt
  have hx := hT.grown (World.grownBy_alloc w (.cells #[.int .i64 0, .string ⟨#[]⟩, .int .i64 0, .bool false, .int .i64 0] 71) none) (by simp)
  have x0 := hx.cell0
  have x1 := hx.cell1
  have HT := Lib.hid hT
  have HX := Lib.hid hx
  clear hT hx
  obtain ⟨r, hr⟩ : ∃ r, s.extract a s.size = r := ⟨_, rfl⟩
  have hrl : r.data.toList = s.data.toList.drop a := by
    rw [← hr]
    simp only [ByteArray.data_extract, Array.toList_extract, List.extract]
    rw [List.take_of_length_le (by simp)]
  have hrs : r.size = s.size - a := by rw [← hr]; simp
  have hr0 : 0 < r.size := by omega
  have hrc : r[0]'hr0 = s[a]'ha := by
    have h1 : r.data.toList[0]? = (s.data.toList.drop a)[0]? := by rw [hrl]
    rw [drop_at ha] at h1
    rw [show r.data.toList[0]? = some (r[0]'hr0) by simp [ByteArray.getElem_eq_getElem_data]] at h1
    simpa using h1
  have HR := Lib.hid hr
  have HRL := Lib.hid hrl
  have HRS := Lib.hid hrs
  obtain ⟨J, hJ⟩ : ∃ J, Lib.indexByte [40, 41, 44, 46, 47, 60, 62, 61] ((r[0]'hr0).toNat : Int).toNat.toUInt8 = J := ⟨_, rfl⟩
  have hJ2 : decide (J < 0) = !markOne s[a] := by
    rw [← hJ, ← hrc, ← index_one]
    simp
  have HJ := Lib.hid hJ
  have hhd : (s.data.toList.drop a).headD 0 = s[a] := by rw [drop_at ha]; rfl
  have HHD := Lib.hid hhd
  clear hr hrl hJ hrc hhd hrs
  cases hm : markTwo r.data.toList with
  | true =>
    have HM := Lib.hid hm
    have hrN : 2 ≤ r.size := two_len hm
    have HG := Lib.hid (show markL (s.data.toList.drop a) = .tok ⟨4, (s.data.toList.drop a).take 2, 0, false⟩ ((s.data.toList.drop a).drop 2) by
      unfold markL
      rw [← HRL.out, hm, if_pos rfl])
    have HTK := Lib.hid (show r.extract 0 2 = ⟨((s.data.toList.drop a).take 2).toArray⟩ by
      apply ByteArray.ext
      rw [← HRL.out]
      apply Array.ext'
      simp only [ByteArray.data_extract, Array.toList_extract, List.extract, List.drop_zero, Nat.sub_zero, List.toList_toArray])
    have HLE := Lib.hid (show a + 2 ≤ s.size by have := HRS.out; omega)
    clear hm hJ2
    go_enter Tryz.func125, Tryz.ntmps125
    go_wp2_with fail
    go_region
    rw [HR.out]
    have hW := MarkW.start HT.out r
    have HW := Lib.hid hW
    clear hW x0 x1
    generalize ((w.alloc (.cells #[.int .i64 0, .string ⟨#[]⟩, .int .i64 0, .bool false, .int .i64 0] 71)).alloc (.cells #[.string r] 9)).drew = W at HW ⊢
    go_wp2_with (go_at_call 153; ((with_reducible refine (contains_calls (w.heap.size + 1) W.heap.size r _ ?_ ?_).mono ?_); (focus (exact cell_below ((Below.refl _ _).alloc (Nat.le_refl _) _) HW.out.r)); (focus (exact heap_alloc_new W _)); rintro e w2 ⟨rfl, hb2⟩; rw [HM.out]; have hw2 := HW.out.below (below_then ((Below.refl _ _).alloc (Nat.le_refl _) _) hb2 (by simp)); have y0 := hw2.x.cell0; have y1 := hw2.x.cell1; have yf := hw2.x.free 1; have k0 := hw2.k.c0; have k1 := hw2.k.c1; have k2 := hw2.k.c2; have k3 := hw2.k.c3; have k4 := hw2.k.c4; have l0 := hw2.k.fr 0; have l1 := hw2.k.fr 1; have l2 := hw2.k.fr 2; have l3 := hw2.k.fr 3; have l4 := hw2.k.fr 4; have yr := hw2.r; have HW2 := Lib.hid hw2; clear hb2 hw2))
    have hset := (HW2.out.k.grown (grown_set (World.grownBy.refl w2 (some X)) 1 (.int .i64 ((a : Int) + 2))) (by simp; omega)).set (.int .i64 4) (.string (r.extract 0 2)) (.int .i64 0) (.bool false) (.int .i64 0)
    have r0 := hset.c0; have r1 := hset.c1; have r2 := hset.c2; have r3 := hset.c3; have r4 := hset.c4
    refine bodyPost_ret (v := .tuple #[.agg #[.int .i64 4, .string (r.extract 0 2), .int .i64 0, .bool false, .int .i64 0], .int .i64 0]) (by simp [results, Tryz.results125, go_sem, r0, r1, r2, r3, r4]) rfl ⟨grown_tokSet (grown_set HW2.out.g _ _) (Nat.le_refl _) _ _ _ _ _, ?_⟩
    rw [HG.out]
    refine ⟨?_, _, HLE.out, ?_, (HW2.out.x.set (a + 2)).tokSet (by omega) _ _ _ _ _⟩
    · rw [HTK.out]
      rfl
    · rw [List.drop_drop]
  | false =>
    cases h1 : markOne (s[a]'ha) with
    | true =>
      rw [h1] at hJ2
      have hJ3 : decide (J < 0) = false := hJ2
      clear hJ2
      have HM := Lib.hid hm
      have hrN : 1 ≤ r.size := hr0
      have HG := Lib.hid (show markL (s.data.toList.drop a) = .tok ⟨4, (s.data.toList.drop a).take 1, 0, false⟩ ((s.data.toList.drop a).drop 1) by
        unfold markL
        rw [← HRL.out, hm, if_neg (by simp), HRL.out, HHD.out, h1, if_pos rfl])
      have HTK := Lib.hid (show r.extract 0 1 = ⟨((s.data.toList.drop a).take 1).toArray⟩ by
        apply ByteArray.ext
        rw [← HRL.out]
        apply Array.ext'
        simp only [ByteArray.data_extract, Array.toList_extract, List.extract, List.drop_zero, Nat.sub_zero, List.toList_toArray])
      have HLE := Lib.hid (show a + 1 ≤ s.size by have := HRS.out; omega)
      clear hm
      go_enter Tryz.func125, Tryz.ntmps125
      go_wp2_with fail
      go_region
      rw [HR.out]
      have hW := MarkW.start HT.out r
      have HW := Lib.hid hW
      clear hW x0 x1
      generalize ((w.alloc (.cells #[.int .i64 0, .string ⟨#[]⟩, .int .i64 0, .bool false, .int .i64 0] 71)).alloc (.cells #[.string r] 9)).drew = W at HW ⊢
      go_wp2_with (first
        | (go_at_call 153; ((with_reducible refine (contains_calls (w.heap.size + 1) W.heap.size r _ ?_ ?_).mono ?_); (focus (exact cell_below ((Below.refl _ _).alloc (Nat.le_refl _) _) HW.out.r)); (focus (exact heap_alloc_new W _)); rintro e w2 ⟨rfl, hb2⟩; rw [HM.out]; have hw2 := HW.out.below (below_then ((Below.refl _ _).alloc (Nat.le_refl _) _) hb2 (by simp)); have y0 := hw2.x.cell0; have y1 := hw2.x.cell1; have yf := hw2.x.free 1; have k0 := hw2.k.c0; have k1 := hw2.k.c1; have k2 := hw2.k.c2; have k3 := hw2.k.c3; have k4 := hw2.k.c4; have l0 := hw2.k.fr 0; have l1 := hw2.k.fr 1; have l2 := hw2.k.fr 2; have l3 := hw2.k.fr 3; have l4 := hw2.k.fr 4; have yr := hw2.r; have HW2 := Lib.hid hw2; clear hb2 hw2))
        | (go_at_call 155; (with_reducible refine (Tryz.strings_IndexByte _ _ _).mono ?_); rintro e w' ⟨rfl, hw⟩; rw [hw, HJ.out]; clear hw))
      have hset := (HW2.out.k.grown (grown_set (World.grownBy.refl w2 (some X)) 1 (.int .i64 ((a : Int) + 1))) (by simp; omega)).set (.int .i64 4) (.string (r.extract 0 1)) (.int .i64 0) (.bool false) (.int .i64 0)
      have r0 := hset.c0; have r1 := hset.c1; have r2 := hset.c2; have r3 := hset.c3; have r4 := hset.c4
      refine bodyPost_ret (v := .tuple #[.agg #[.int .i64 4, .string (r.extract 0 1), .int .i64 0, .bool false, .int .i64 0], .int .i64 0]) (by simp [results, Tryz.results125, go_sem, r0, r1, r2, r3, r4]) rfl ⟨grown_tokSet (grown_set HW2.out.g _ _) (Nat.le_refl _) _ _ _ _ _, ?_⟩
      rw [HG.out]
      refine ⟨?_, _, HLE.out, ?_, (HW2.out.x.set (a + 1)).tokSet (by omega) _ _ _ _ _⟩
      · rw [HTK.out]
        rfl
      · rw [List.drop_drop]
    | false =>
      rw [h1] at hJ2
      have hJ3 : decide (J < 0) = true := hJ2
      clear hJ2
      have HM := Lib.hid hm
      have HG := Lib.hid (show markL (s.data.toList.drop a) = .bad 2 by
        unfold markL
        rw [← HRL.out, hm, if_neg (by simp), HRL.out, HHD.out, h1, if_neg (by simp)])
      clear hm
      go_enter Tryz.func125, Tryz.ntmps125
      go_wp2_with fail
      go_region
      rw [HR.out]
      have hW := MarkW.start HT.out r
      have HW := Lib.hid hW
      clear hW x0 x1
      generalize ((w.alloc (.cells #[.int .i64 0, .string ⟨#[]⟩, .int .i64 0, .bool false, .int .i64 0] 71)).alloc (.cells #[.string r] 9)).drew = W at HW ⊢
      go_wp2_with (first
        | (go_at_call 153; ((with_reducible refine (contains_calls (w.heap.size + 1) W.heap.size r _ ?_ ?_).mono ?_); (focus (exact cell_below ((Below.refl _ _).alloc (Nat.le_refl _) _) HW.out.r)); (focus (exact heap_alloc_new W _)); rintro e w2 ⟨rfl, hb2⟩; rw [HM.out]; have hw2 := HW.out.below (below_then ((Below.refl _ _).alloc (Nat.le_refl _) _) hb2 (by simp)); have y0 := hw2.x.cell0; have y1 := hw2.x.cell1; have yf := hw2.x.free 1; have k0 := hw2.k.c0; have k1 := hw2.k.c1; have k2 := hw2.k.c2; have k3 := hw2.k.c3; have k4 := hw2.k.c4; have l0 := hw2.k.fr 0; have l1 := hw2.k.fr 1; have l2 := hw2.k.fr 2; have l3 := hw2.k.fr 3; have l4 := hw2.k.fr 4; have yr := hw2.r; have HW2 := Lib.hid hw2; clear hb2 hw2))
        | (go_at_call 155; (with_reducible refine (Tryz.strings_IndexByte _ _ _).mono ?_); rintro e w' ⟨rfl, hw⟩; rw [hw, HJ.out]; clear hw))
      have hset := HW2.out.k.set (.int .i64 0) (.string ⟨#[]⟩) (.int .i64 0) (.bool false) (.int .i64 0)
      have r0 := hset.c0; have r1 := hset.c1; have r2 := hset.c2; have r3 := hset.c3; have r4 := hset.c4
      refine bodyPost_ret (v := .tuple #[.agg #[.int .i64 0, .string ⟨#[]⟩, .int .i64 0, .bool false, .int .i64 0], .int .i64 2]) (by simp [results, Tryz.results125, go_sem, r0, r1, r2, r3, r4]) rfl ⟨grown_tokSet HW2.out.g (Nat.le_refl _) _ _ _ _ _, ?_⟩
      rw [HG.out]
      exact ⟨rfl, _, HW2.out.x.tokSet (by omega) _ _ _ _ _⟩
end Go.Proofs.YtminbdcabacfbaaGreatDoor.V

namespace Go.Proofs.YtminbdcabacfbaaGreatDoor.V
set_option linter.unusedVariables false
set_option linter.unusedSimpArgs false
open Go.RowKit

theorem o_slice {W : World} {B e z n : Nat} {v : Value} {xs : List Value} (h : W.ownsRow B e z v n xs) : ∃ A c, v = .slice A n c := by
  rcases h.2 with ⟨rfl, rfl⟩ | ⟨g, cap, cur, rfl, _⟩
  · exact ⟨none, 0, rfl⟩
  · exact ⟨_, _, rfl⟩
theorem o_from {W : World} {B e z n : Nat} {v : Value} {xs : List Value} (h : W.ownsRow B e z v n xs) : ∀ k, v.ownBlock = some k → B ≤ k := fun k hk => (h.lt k hk).1
theorem o_cells {W : World} (C : Array Value) (e : TypeId) : ∀ j u, C.toList[j]? = some u → (W.alloc (.cells C e)).cell? ((⟨W.heap.size, 0, none⟩ : Addr).add j) = some u := by
  intro j u hu
  have h1 := cell_of_row (W.alloc (.cells C e)) W.heap.size j _ _ _ (heap_alloc_new W _)
  rw [← Array.getElem?_toList, hu] at h1
  have e : Addr.add ⟨W.heap.size, 0, none⟩ j = ⟨W.heap.size, j, none⟩ := by
    unfold Addr.add
    split <;> simp_all
  rw [e]
  exact h1
/-- What grew by a row that is newer than the start. -/
theorem o_grown {w0 W W' : World} {row r2 : Option Nat} (h : w0.grownBy W row) (k : W.grownBy W' r2) (hr : ∀ j, r2 = some j → w0.heap.size ≤ j) : w0.grownBy W' row :=
  ⟨k.os.trans h.os, k.tape.trans h.tape, k.output.trans h.output, Nat.le_trans h.size k.size, fun i hi hne => (k.block i (Nat.lt_of_lt_of_le hi h.size) (fun e => by have := hr i e.symm; omega)).trans (h.block i hi hne)⟩

theorem o_app {ops : Array Oper} {rest : List Oper} {o : Oper} {a : Act} {Q : Exit → Act → World → Prop} (hgd : o.guard = none) (s x : Operand) (t e : TypeId)
    (ho : o.op = .call { callee := .builtin .append, args := #[s, x], argTypes := #[t, t] }) (z : Value) (sz bytes : Nat) (ht : Tryz.prog.underlying t = some (.slice e))
    (hI : (Tryz.prog.info? e).map (fun i => (i.zero, i.size, i.bytes)) = some (some z, sz, bytes)) (hzs : z.cells.size = sz) (hsz : 0 < sz) (hby : bytes ≤ 1024)
    {q : Nat} {W : World} (C : Array Value) (hC : C.size = sz) (h1 : ∀ u ∈ C.toList, u.oneCell' = true)
    (v : Value) (n : Nat) (xs : List Value) (hs : a.eval s = v) (hown : W.ownsRow q e sz v n xs) (hx : a.eval x = .slice (some ⟨W.heap.size, 0, none⟩) 1 1)
    (hn : n < 1000000000) (hq : q ≤ W.heap.size)
    (h : ∀ A c W', W'.ownsRow q e sz (.slice A (n + 1) c) (n + 1) (xs ++ C.toList) → W.grownBy W' v.ownBlock → wpList Tryz.prog ops Q rest (a.put o.dst (.slice A (n + 1) c)) W') :
    wpList Tryz.prog ops Q (o :: rest) a (W.alloc (.cells C e)) := by
  obtain ⟨i0, hi, hz0, hz1, hz2⟩ := info_parts hI
  refine wpList_append_own_at _ hgd s x t ho q e i0 z sz bytes ht hi hz0 hz1 hz2 hzs hsz v n xs hs (hown.alloc _) ⟨W.heap.size, 0, none⟩ 1 1 C.toList hx ?_ (o_cells C e) h1 ?_ ?_ ?_ ?_
  · rw [Nat.one_mul, ← hC]; rfl
  · unfold maxLen; omega
  · have : (n + 1) * bytes ≤ 1000000000 * 1024 := Nat.mul_le_mul (by omega) hby
    omega
  · rw [World.size_alloc]; omega
  intro v2 w2 hown2 hg2 _ _
  obtain ⟨A2, c2, rfl⟩ := o_slice hown2
  exact h A2 c2 w2 hown2 (grown_trans (World.grownBy_alloc _ _ _) hg2)

/-- Bytes as they lie in cells. -/
def u8V (l : List UInt8) : List Value := l.map fun b => .int .u8 (b.toNat : Int)
theorem u8V_length (l : List UInt8) : (u8V l).length = l.length := by simp [u8V]
theorem u8V_snoc (l : List UInt8) (b : UInt8) : u8V (l ++ [b]) = u8V l ++ [.int .u8 (b.toNat : Int)] := by simp [u8V]
theorem u8_info : (Tryz.prog.info? 5).map (fun i => (i.zero, i.size, i.bytes)) = some (some (.int .u8 0), 1, 1) := by kernel_rfl
/-- What is owned is read as a string. -/
theorem u8_conv {q n c : Nat} {A : Option Addr} {W : World} {xs : List UInt8} (h : W.ownsRow q 5 1 (.slice A n c) n (u8V xs)) (hx : 0 < xs.length) : (convert 82 9 (.slice A n c)).run Tryz.prog W = .ok (.string ⟨xs.toArray⟩) W := by
  have hl : xs.length = n := by have := h.1; rw [u8V_length, Nat.mul_one] at this; exact this
  rcases h.2 with ⟨_, h2⟩ | ⟨g, cap, cur, hv, hg, hk, hnc, _, hcs, hcur⟩
  · omega
  · cases hv
    have hs : (⟨xs.toArray⟩ : ByteArray).size = n := by rw [← hl]; exact List.size_toArray
    rw [← hs]
    refine Lib.run_convert_whole (P := Tryz.prog) _ 82 5 9 Tryz.underlying82 Tryz.underlying5 Tryz.underlying9 g 0 ⟨xs.toArray⟩ (fun i hi => ?_) _
    have hi' : i < xs.length := by rw [hl, ← hs]; exact hi
    have h1 := cell_of_row W g i _ _ _ hk
    have h2 : cur[i]? = (u8V xs)[i]? := by
      rw [← hcur, Nat.mul_one, List.getElem?_take_of_lt (by omega)]
      simp
    rw [h2] at h1
    rw [Nat.zero_add, h1]
    simp [u8V, hi', ByteArray.getElem_eq_getElem_data]

theorem u8_nil (W : World) : (convert 82 9 (.slice none 0 0)).run Tryz.prog W = .ok (.string ⟨#[]⟩) W := Lib.run_convert_nil_bytes W _ _ _ 0 Tryz.underlying82 Tryz.underlying5 Tryz.underlying9
theorem o_keep {W W' : World} {q e z n X : Nat} {v : Value} {xs : List Value} (h : W.ownsRow q e z v n xs) (hg : W.grownBy W' (some X)) (hX : X < q) : W'.ownsRow q e z v n xs := by
  refine h.kept hg ?_
  cases hv : v.ownBlock with
  | none => exact .inl rfl
  | some g => exact .inr (fun he => by have := o_from h g hv; have : g = X := Option.some.inj he; omega)

theorem q39 (t : List UInt8) : quotL (39 :: t) = some ([], t) := by cases t <;> rfl
theorem q10 (t : List UInt8) : quotL (10 :: t) = none := by cases t <;> rfl
theorem q92 (d : UInt8) (u : List UInt8) : quotL (92 :: d :: u) = if d == 110 || d == 39 || d == 92 then (quotL u).map fun p => ((if d == 110 then 10 else d) :: p.1, p.2) else none := by
  rw [quotL]
  rw [if_neg (by decide), if_neg (by decide), if_pos (by decide)]
theorem qother (c : UInt8) (t : List UInt8) (h1 : (c == 39) = false) (h2 : (c == 10) = false) (h3 : (c == 92) = false) : quotL (c :: t) = (quotL t).map fun p => (c :: p.1, p.2) := by
  cases t with
  | nil => simp [quotL, h1]
  | cons d u =>
    rw [quotL]
    simp [h1, h2, h3]
theorem index_esc (c : UInt8) : decide (Lib.indexByte [110, 39, 92] c < 0) = !(c == 110 || c == 39 || c == 92) := by
  simp only [Lib.indexByte]
  by_cases h1 : c = 110
  · subst h1; decide
  · by_cases h2 : c = 39
    · subst h2; decide
    · by_cases h3 : c = 92
      · subst h3; decide
      · have e1 : (110 == c) = false := by simpa using Ne.symm h1
        have e2 : (39 == c) = false := by simpa using Ne.symm h2
        have e3 : (92 == c) = false := by simpa using Ne.symm h3
        simp [e1, e2, e3, h1, h2, h3]
end Go.Proofs.YtminbdcabacfbaaGreatDoor.V

namespace Go.Proofs.YtminbdcabacfbaaGreatDoor.V
set_option linter.unusedVariables false
set_option linter.unusedSimpArgs false
open Go.RowKit

def bs (l : List UInt8) : ByteArray := ⟨l.toArray⟩
theorem bs_list (l : List UInt8) : (bs l).toList = l := by
  rw [ByteArray.toList_eq]
  rfl
/-- A row's cells. -/
theorem o_at {W : World} {B e z n : Nat} {A : Option Addr} {c : Nat} {xs : List Value} (h : W.ownsRow B e z (.slice A n c) n xs) (hn : 0 < n) : ∃ g, A = some ⟨g, 0, none⟩ ∧ ∀ j u, xs[j]? = some u → W.cell? ⟨g, j, none⟩ = some u := by
  rcases h.2 with ⟨_, h0⟩ | ⟨g, cap, cur, hv, _, hk, _, _, _, hcur⟩
  · omega
  · injection hv with hA _ _
    refine ⟨g, hA, fun j u hu => ?_⟩
    have hlt := (List.getElem?_eq_some_iff.1 hu).1
    rw [cell_of_row W g j cur _ _ hk]
    rw [← hcur, List.getElem?_take_of_lt (by rw [← h.1]; exact hlt)] at hu
    simpa using hu

theorem flat_at {α : Type} (f : α → List Value) (z : Nat) (hz : ∀ x, (f x).length = z) : ∀ (l : List α) (m j : Nat) (p : α), l[m]? = some p → j < z → (l.flatMap f)[m * z + j]? = (f p)[j]? := by
  intro l
  induction l with
  | nil => intro m j p h; simp at h
  | cons x l ih =>
    intro m j p h hj
    rw [List.flatMap_cons]
    match m with
    | 0 =>
      simp at h
      subst h
      rw [Nat.zero_mul, Nat.zero_add, List.getElem?_append_left (by rw [hz]; exact hj)]
    | m + 1 =>
      rw [List.getElem?_append_right (by rw [hz, Nat.succ_mul]; omega), ← ih m j p (by simpa using h) hj]
      congr 1
      rw [hz, Nat.succ_mul]
      omega
/-- A row's cells of one of its things. -/
theorem flat_row {α : Type} (f : α → List Value) {z : Nat} (hz : ∀ x, (f x).length = z) {W : World} {B e n : Nat} {A : Option Addr} {c : Nat} {l : List α} (h : W.ownsRow B e z (.slice A n c) n (l.flatMap f)) (hn : n = l.length) {m : Nat} {p : α} (hm : l[m]? = some p) :
    ∃ g, A = some ⟨g, 0, none⟩ ∧ ∀ j u, j < z → (f p)[j]? = some u → W.cell? ⟨g, m * z + j, none⟩ = some u := by
  have hlt := (List.getElem?_eq_some_iff.1 hm).1
  obtain ⟨g, hA, hc⟩ := o_at h (by omega)
  exact ⟨g, hA, fun j u hj hu => hc _ u (by rw [flat_at f z hz l m j p hm hj]; exact hu)⟩

theorem o_kb {W W' : World} {B e z n : Nat} {v : Value} {xs : List Value} (h : W.ownsRow B e z v n xs) (hb : Below W.heap.size W W') : W'.ownsRow B e z v n xs := h.kept (row := none) ⟨hb.os, hb.tape, hb.output, hb.size, fun k hk _ => hb.block k hk⟩ (by cases hv : v.ownBlock <;> simp)
end Go.Proofs.YtminbdcabacfbaaGreatDoor.V

namespace Go.Proofs.YtminbdcabacfbaaGreatDoor.V
set_option linter.unusedVariables false
set_option linter.unusedSimpArgs false
open Go.RowKit

theorem byteN {c d : UInt8} {n : Int} (h : ((c.toNat : Int) == n) = true) (hd : (d.toNat : Int) = n) : c = d := by
  apply UInt8.toNat_inj.1
  have : (c.toNat : Int) = n := by simpa using h
  omega
theorem byteNot {c d : UInt8} {n : Int} (h : ((c.toNat : Int) == n) = false) (hd : (d.toNat : Int) = n) : (c == d) = false := by
  apply beq_eq_false_iff_ne.2
  rintro rfl
  rw [hd] at h
  simp at h

/-- What the scanner of a name in marks keeps, round by round. -/
structure QuotW (X : Nat) (s : ByteArray) (a k : Nat) (w W : World) (v : Value) (acc : List UInt8) : Prop where
  hx : IsText X s k W
  hk : IsTok w.heap.size (.int .i64 0) (.string ⟨#[]⟩) (.int .i64 0) (.bool false) (.int .i64 0) W
  ho : W.ownsRow (w.heap.size + 1) 5 1 v acc.length (u8V acc)
  hz : acc = [] → v = .slice none 0 0
  hn : acc.length ≤ k
  hg : w.grownBy W (some X)
  hq : quotL (s.data.toList.drop (a + 1)) = (quotL (s.data.toList.drop k)).map fun p => (acc ++ p.1, p.2)

theorem QuotW.conv {X : Nat} {s : ByteArray} {a k n c : Nat} {A : Option Addr} {w W W' : World} {acc : List UInt8} (h : QuotW X s a k w W (.slice A n c) acc) (hX : X < w.heap.size) (hg : W.grownBy W' (some X)) :
    (convert 82 9 (.slice A n c)).run Tryz.prog W' = .ok (.string ⟨acc.toArray⟩) W' := by
  by_cases he : acc = []
  · have hz := h.hz he
    cases hz
    rw [he]
    exact u8_nil W'
  · have ho := h.ho
    have hn : acc.length = n := by
      have := ho.1
      rcases ho.2 with ⟨hv, h2⟩ | ⟨g, cap, cur, hv, _⟩
      · cases hv
        omega
      · cases hv
        rfl
    rw [hn] at ho
    exact u8_conv (o_keep ho hg (by omega)) (by cases acc with | nil => exact absurd rfl he | cons => simp)
/-- A byte more. -/
theorem QuotW.more {X : Nat} {s : ByteArray} {a k k' k1 m c : Nat} {A : Option Addr} {b : UInt8} {w W W1 W2 W3 : World} {v : Value} {acc : List UInt8} (h : QuotW X s a k w W v acc) (hX : X < w.heap.size)
    (hg : W.grownBy W1 (some X)) (hT : IsText X s k1 W1) (ho : W2.ownsRow (w.heap.size + 1) 5 1 (.slice A m c) m (u8V acc ++ [.int .u8 (b.toNat : Int)])) (hm : m = acc.length + 1) (hg2 : W1.grownBy W2 v.ownBlock) (hW3 : W3 = W2.setCell ⟨X, 1, none⟩ (.int .i64 (k' : Int))) (hk : acc.length + 1 ≤ k')
    (hq : quotL (s.data.toList.drop k) = (quotL (s.data.toList.drop k')).map fun p => (b :: p.1, p.2)) : QuotW X s a k' w W3 (.slice A m c) (acc ++ [b]) := by
  subst hW3
  have ho1 : ∀ j, v.ownBlock = some j → w.heap.size + 1 ≤ j := fun j hj => o_from h.ho j hj
  have hXne : some X ≠ v.ownBlock := fun e => by have := ho1 X e.symm; omega
  have hKne : some w.heap.size ≠ v.ownBlock := fun e => by have := ho1 _ e.symm; omega
  have gW2 : w.grownBy W2 (some X) := o_grown (grown_trans h.hg hg) hg2 (fun j hj => by have := ho1 j hj; omega)
  exact
    { hx := (hT.grown hg2 hXne).set k'
      hk := ((h.hk.grown hg (by simp; omega)).grown hg2 hKne).grown (grown_set (World.grownBy.refl W2 (some X)) _ _) (by simp; omega)
      ho := by
        rw [List.length_append, List.length_singleton, u8V_snoc, ← hm]
        exact o_keep ho (grown_set (World.grownBy.refl W2 (some X)) _ _) (by omega)
      hz := fun e => by simp at e
      hn := by simpa using hk
      hg := grown_set gW2 _ _
      hq := by
        rw [h.hq, hq]
        cases quotL (s.data.toList.drop k') <;> simp }

set_option maxRecDepth 100000 in
set_option maxHeartbeats 8000000 in
theorem quoted_calls (X : Nat) (s : ByteArray) (a : Nat) (w : World) (hT : IsText X s a w) (ha : a < s.size) (hs : s.size ≤ 65536) :
    Calls Tryz.prog 130 #[.pointer (some ⟨X, 0, none⟩)] w (OneIs X s (qres (quotL (s.data.toList.drop (a + 1)))) w) := by
  have hlt := hT.lt
  have hx := hT.grown (World.grownBy_alloc w (.cells #[.int .i64 0, .string ⟨#[]⟩, .int .i64 0, .bool false, .int .i64 0] 71) none) (by simp)
  have x0 := hx.cell0
  have x1 := hx.cell1
  have xf := hx.free 1
  have HT := Lib.hid hT
  have HLT := Lib.hid hlt
  clear hT hx
  have HS := Lib.hid (show QuotW X s a (a + 1) w ((w.setCell ⟨X, 1, none⟩ (.int .i64 ((a + 1 : Nat) : Int))).alloc (.cells #[.int .i64 0, .string ⟨#[]⟩, .int .i64 0, .bool false, .int .i64 0] 71)) (.slice none 0 0) [] from
    { hx := (HT.out.set (a + 1)).grown (World.grownBy_alloc _ _ none) (by simp)
      hk := by
        have := IsTok.new (v0 := .int .i64 0) (v1 := .string ⟨#[]⟩) (v2 := .int .i64 0) (v3 := .bool false) (v4 := .int .i64 0) (w.setCell ⟨X, 1, none⟩ (.int .i64 ((a + 1 : Nat) : Int)))
        rwa [show (w.setCell ⟨X, 1, none⟩ (.int .i64 ((a + 1 : Nat) : Int))).heap.size = w.heap.size by simp [World.setCell]] at this
      ho := World.ownsRow_nil _ _ _ _
      hz := fun _ => rfl
      hn := Nat.zero_le _
      hg := grown_trans (grown_set (World.grownBy.refl _ _) _ _) (World.grownBy_alloc _ _ _)
      hq := by simp })
  go_enter Tryz.func130, Tryz.ntmps130
  go_wp2_with fail
  go_loopw [4, 5] (fun v c wr => ∃ k acc, k ≤ s.size ∧ QuotW X s a k w wr v acc) (fun _ _ wr => s.size - textAt X wr)
  case atStart => exact ⟨a + 1, [], ha, HS.out⟩
  case round =>
    obtain ⟨k, acc, hk, hW⟩ := hrel
    obtain ⟨A, c, rfl⟩ := o_slice hW.ho
    have HW := Lib.hid hW
    have c0 := hW.hx.cell0
    have c1 := hW.hx.cell1
    have cf := hW.hx.free 1
    have k0 := hW.hk.c0; have k1 := hW.hk.c1; have k2 := hW.hk.c2; have k3 := hW.hk.c3; have k4 := hW.hk.c4
    have l0 := hW.hk.fr 0; have l1 := hW.hk.fr 1; have l2 := hW.hk.fr 2; have l3 := hW.hk.fr 3; have l4 := hW.hk.fr 4
    have HK := Lib.hid hk
    clear hW x0 x1 xf
    by_cases hkl : k < s.size
    · have hd : decide ((k : Int) < (s.size : Int)) = true := decide_eq_true (by omega)
      have HDR := Lib.hid (drop_at hkl)
      cases h39 : (((s[k]'hkl).toNat : Int) == 39) with
      | true =>
        have HQ := Lib.hid (show quotL (s.data.toList.drop k) = some ([], s.data.toList.drop (k + 1)) by rw [HDR.out, byteN (d := 39) h39 (by decide), q39])
        have hcv : (convert 82 9 (.slice A acc.length c)).run Tryz.prog (wr.setCell ⟨X, 1, none⟩ (.int .i64 ((k : Int) + 1))).drew.drew = .ok (.string ⟨acc.toArray⟩) (wr.setCell ⟨X, 1, none⟩ (.int .i64 ((k : Int) + 1))).drew.drew := HW.out.conv HLT.out (grown_drew (grown_drew (grown_set (World.grownBy.refl wr (some X)) 1 (.int .i64 ((k : Int) + 1)))))
        go_wp2_with fail
        go_region
        go_wp2_with fail
        go_region
        go_wp2_with fail
        have hset := (HW.out.hk.grown (grown_set (World.grownBy.refl wr (some X)) 1 (.int .i64 ((k : Int) + 1))) (by have := HLT.out; simp; omega)).set (.int .i64 1) (.string ⟨acc.toArray⟩) (.int .i64 0) (.bool true) (.int .i64 0)
        have r0 := hset.c0; have r1 := hset.c1; have r2 := hset.c2; have r3 := hset.c3; have r4 := hset.c4
        refine bodyPost_ret (v := .tuple #[.agg #[.int .i64 1, .string ⟨acc.toArray⟩, .int .i64 0, .bool true, .int .i64 0], .int .i64 0]) (by simp [results, Tryz.results130, go_sem, r0, r1, r2, r3, r4]) rfl ⟨grown_drew (grown_drew (grown_tokSet (grown_trans HW.out.hg (grown_set (World.grownBy.refl wr (some X)) 1 (.int .i64 ((k : Int) + 1)))) (Nat.le_refl _) _ _ _ _ _)), ?_⟩
        rw [HW.out.hq, HQ.out]
        exact ⟨by simp [tokV], k + 1, hkl, rfl, ((HW.out.hx.set (k + 1)).tokSet (by have := HLT.out; omega) _ _ _ _ _).drew.drew⟩
      | false =>
        have H39 := Lib.hid (byteNot (d := 39) h39 (by decide))
        cases h10 : (((s[k]'hkl).toNat : Int) == 10) with
        | true =>
          have HQ := Lib.hid (show quotL (s.data.toList.drop k) = none by rw [HDR.out, byteN (d := 10) h10 (by decide), q10])
          go_wp2_with fail
          go_region
          go_wp2_with fail
          go_region
          go_wp2_with fail
          have hset := (HW.out.hk.grown (World.grownBy.refl wr (some X)) (by have := HLT.out; simp; omega)).set (.int .i64 0) (.string ⟨#[]⟩) (.int .i64 0) (.bool false) (.int .i64 0)
          have r0 := hset.c0; have r1 := hset.c1; have r2 := hset.c2; have r3 := hset.c3; have r4 := hset.c4
          refine bodyPost_ret (v := .tuple #[.agg #[.int .i64 0, .string ⟨#[]⟩, .int .i64 0, .bool false, .int .i64 0], .int .i64 2]) (by simp [results, Tryz.results130, go_sem, r0, r1, r2, r3, r4]) rfl ⟨(grown_drew (grown_drew (grown_tokSet (grown_trans HW.out.hg (World.grownBy.refl wr (some X))) (Nat.le_refl _) _ _ _ _ _))), ?_⟩
          rw [HW.out.hq, HQ.out]
          exact ⟨rfl, _, (HW.out.hx.tokSet (by have := HLT.out; omega) _ _ _ _ _).drew.drew⟩
        | false =>
          have H10 := Lib.hid (byteNot (d := 10) h10 (by decide))
          cases h92 : (((s[k]'hkl).toNat : Int) == 92) with
          | true =>
            have H92 := Lib.hid (byteN (d := 92) h92 (by decide))
            by_cases hk2 : k + 1 < s.size
            · have he : (((k : Int) + 1) == (s.size : Int)) = false := by simpa using (by omega : ¬ (k : Int) + 1 = (s.size : Int))
              have HDR2 := Lib.hid (drop_at hk2)
              obtain ⟨J, hJ⟩ : ∃ J, Lib.indexByte [110, 39, 92] ((s[k + 1]'hk2).toNat : Int).toNat.toUInt8 = J := ⟨_, rfl⟩
              have hJ2 : decide (J < 0) = !(s[k + 1] == 110 || s[k + 1] == 39 || s[k + 1] == 92) := by
                rw [← hJ, ← index_esc]
                simp
              have HJ := Lib.hid hJ
              clear hJ
              have C0 := Lib.hid (show (wr.setCell ⟨X, 1, none⟩ (.int .i64 ((k : Int) + 1))).cell? ⟨X, 0, none⟩ = some (.string s) from (HW.out.hx.set (k + 1)).cell0)
              have C1 := Lib.hid (show (wr.setCell ⟨X, 1, none⟩ (.int .i64 ((k : Int) + 1))).cell? ⟨X, 1, none⟩ = some (.int .i64 ((k : Int) + 1)) from (HW.out.hx.set (k + 1)).cell1)
              cases hin : (s[k + 1] == 110 || s[k + 1] == 39 || s[k + 1] == 92) with
              | false =>
                rw [hin] at hJ2
                have hJ3 : decide (J < 0) = true := hJ2
                have HQ := Lib.hid (show quotL (s.data.toList.drop k) = none by rw [HDR.out, H92.out, HDR2.out, q92, hin]; rfl)
                clear hJ2 hin
                go_wp2_with fail
                go_region
                go_wp2_with fail
                go_region
                go_wp2_with fail
                go_region_held3 (fun W => W.cell? ⟨X, 0, none⟩ = some (.string s) ∧ W.cell? ⟨X, 1, none⟩ = some (.int .i64 ((k : Int) + 1)))
                  ((go_split_ands; refine ⟨?_, ?_⟩; (focus (first | with_reducible assumption | (refine cell_below (w := wr.setCell ⟨X, 1, none⟩ (.int .i64 ((k : Int) + 1))) ?_ C0.out; (focus (repeat (first | with_reducible assumption | with_reducible exact Below.refl _ _ | with_reducible apply Below.drew)))))); (focus (first | with_reducible assumption | (refine cell_below (w := wr.setCell ⟨X, 1, none⟩ (.int .i64 ((k : Int) + 1))) ?_ C1.out; (focus (repeat (first | with_reducible assumption | with_reducible exact Below.refl _ _ | with_reducible apply Below.drew))))))))
                  (first
                    | (go_at_call 155; (with_reducible refine (Tryz.strings_IndexByte _ _ _).mono ?_); rintro e w' ⟨rfl, hw⟩; rw [hw, HJ.out]; clear hw))
                go_wp2_with fail
                have hset := (HW.out.hk.grown (grown_set (World.grownBy.refl wr (some X)) 1 (.int .i64 ((k : Int) + 1))) (by have := HLT.out; simp; omega)).set (.int .i64 0) (.string ⟨#[]⟩) (.int .i64 0) (.bool false) (.int .i64 0)
                have r0 := hset.c0; have r1 := hset.c1; have r2 := hset.c2; have r3 := hset.c3; have r4 := hset.c4
                refine bodyPost_ret (v := .tuple #[.agg #[.int .i64 0, .string ⟨#[]⟩, .int .i64 0, .bool false, .int .i64 0], .int .i64 2]) (by simp [results, Tryz.results130, go_sem, r0, r1, r2, r3, r4]) rfl ⟨(grown_drew (grown_drew (grown_drew (grown_tokSet (grown_trans HW.out.hg (grown_set (World.grownBy.refl wr (some X)) 1 (.int .i64 ((k : Int) + 1)))) (Nat.le_refl _) _ _ _ _ _)))), ?_⟩
                rw [HW.out.hq, HQ.out]
                exact ⟨rfl, _, ((HW.out.hx.set (k + 1)).tokSet (by have := HLT.out; omega) _ _ _ _ _).drew.drew.drew⟩
              | true =>
                rw [hin] at hJ2
                have hJ3 : decide (J < 0) = false := hJ2
                clear hJ2
                cases h110 : (((s[k + 1]'hk2).toNat : Int) == 110) with
                | true =>
                  have HQ := Lib.hid (show quotL (s.data.toList.drop k) = (quotL (s.data.toList.drop (k + 2))).map fun p => ((10 : UInt8) :: p.1, p.2) by
                    rw [HDR.out, H92.out, HDR2.out, q92, hin, if_pos rfl, byteN (d := 110) h110 (by decide)]
                    rfl)
                  clear hin
                  go_wp2_with fail
                  go_region
                  go_wp2_with fail
                  go_region
                  go_wp2_with fail
                  go_region_held3 (fun W => W.cell? ⟨X, 0, none⟩ = some (.string s) ∧ W.cell? ⟨X, 1, none⟩ = some (.int .i64 ((k : Int) + 1)))
                    ((go_split_ands; refine ⟨?_, ?_⟩; (focus (first | with_reducible assumption | (refine cell_below (w := wr.setCell ⟨X, 1, none⟩ (.int .i64 ((k : Int) + 1))) ?_ C0.out; (focus (repeat (first | with_reducible assumption | with_reducible exact Below.refl _ _ | with_reducible apply Below.drew)))))); (focus (first | with_reducible assumption | (refine cell_below (w := wr.setCell ⟨X, 1, none⟩ (.int .i64 ((k : Int) + 1))) ?_ C1.out; (focus (repeat (first | with_reducible assumption | with_reducible exact Below.refl _ _ | with_reducible apply Below.drew))))))))
                    (first
                      | (go_at_call 155; (with_reducible refine (Tryz.strings_IndexByte _ _ _).mono ?_); rintro e w' ⟨rfl, hw⟩; rw [hw, HJ.out]; clear hw))
                  go_wp2_with fail
                  go_region
                  go_wp2_with (at_builtin; refine RowKit.Hid.out ?_)
                  refine Lib.hid ?_
                  refine o_app (W := (wr.setCell ⟨X, 1, none⟩ (.int .i64 ((k : Int) + 1))).drew.drew.drew.drew) rfl (.tmp 101) (.tmp 103) 82 5 rfl (.int .u8 0) 1 1 Tryz.underlying82 u8_info rfl (by decide) (by decide) #[.int .u8 ((10 : UInt8).toNat : Int)] rfl (by intro u hu; simp at hu; subst hu; rfl) (.slice A acc.length c) acc.length (u8V acc) (by rfl) (o_keep HW.out.ho (grown_drew (grown_drew (grown_drew (grown_drew (grown_set (World.grownBy.refl wr (some X)) 1 (.int .i64 ((k : Int) + 1))))))) (by have := HLT.out; omega)) (by first | rfl | (show (Value.slice (some ⟨wr.heap.size, 0, none⟩) 1 1) = _; simp [World.setCell, World.drew])) (by have := HW.out.hn; omega) (by have := HW.out.hk; have := (Array.getElem?_eq_some_iff.1 this).1; simp; omega) ?_
                  intro A2 c2 W2 ho2 hg2
                  have hX2 : some X ≠ Value.ownBlock (.slice A acc.length c) := fun e => by have := o_from HW.out.ho X e.symm; have := HLT.out; omega
                  have ht2 := ((HW.out.hx.set (k + 1)).drew.drew.drew.drew).grown hg2 hX2
                  have d0 := ht2.cell0
                  have d1 := ht2.cell1
                  have df := ht2.free 1
                  have HT2 := Lib.hid ht2
                  have HO2 := Lib.hid ho2
                  have HG2 := Lib.hid hg2
                  clear ht2 ho2 hg2 hX2 c0 c1 cf
                  go_wp2_with fail
                  go_roundw
                  case rel => exact ⟨(k + 1) + 1, acc ++ [10], (by omega), HW.out.more HLT.out (grown_drew (grown_drew (grown_drew (grown_drew (grown_set (World.grownBy.refl wr (some X)) 1 (.int .i64 ((k : Int) + 1))))))) ((HW.out.hx.set (k + 1)).drew.drew.drew.drew) HO2.out rfl HG2.out rfl (by have := HW.out.hn; omega) HQ.out⟩
                  case measure =>
                    refine Nat.lt_of_le_of_lt (Nat.le_of_eq (congrArg (s.size - ·) (HT2.out.set ((k + 1) + 1)).textAt)) ?_
                    rw [HW.out.hx.textAt]
                    omega
                | false =>
                  have H110 := Lib.hid (byteNot (d := 110) h110 (by decide))
                  have HQ := Lib.hid (show quotL (s.data.toList.drop k) = (quotL (s.data.toList.drop (k + 2))).map fun p => (s[k + 1] :: p.1, p.2) by
                    rw [HDR.out, H92.out, HDR2.out, q92, hin, if_pos rfl, H110.out]
                    rfl)
                  clear hin
                  go_wp2_with fail
                  go_region
                  go_wp2_with fail
                  go_region
                  go_wp2_with fail
                  go_region_held3 (fun W => W.cell? ⟨X, 0, none⟩ = some (.string s) ∧ W.cell? ⟨X, 1, none⟩ = some (.int .i64 ((k : Int) + 1)))
                    ((go_split_ands; refine ⟨?_, ?_⟩; (focus (first | with_reducible assumption | (refine cell_below (w := wr.setCell ⟨X, 1, none⟩ (.int .i64 ((k : Int) + 1))) ?_ C0.out; (focus (repeat (first | with_reducible assumption | with_reducible exact Below.refl _ _ | with_reducible apply Below.drew)))))); (focus (first | with_reducible assumption | (refine cell_below (w := wr.setCell ⟨X, 1, none⟩ (.int .i64 ((k : Int) + 1))) ?_ C1.out; (focus (repeat (first | with_reducible assumption | with_reducible exact Below.refl _ _ | with_reducible apply Below.drew))))))))
                    (first
                      | (go_at_call 155; (with_reducible refine (Tryz.strings_IndexByte _ _ _).mono ?_); rintro e w' ⟨rfl, hw⟩; rw [hw, HJ.out]; clear hw))
                  go_wp2_with fail
                  go_region
                  go_wp2_with (at_builtin; refine RowKit.Hid.out ?_)
                  refine Lib.hid ?_
                  refine o_app (W := (wr.setCell ⟨X, 1, none⟩ (.int .i64 ((k : Int) + 1))).drew.drew.drew.drew) rfl (.tmp 101) (.tmp 103) 82 5 rfl (.int .u8 0) 1 1 Tryz.underlying82 u8_info rfl (by decide) (by decide) #[.int .u8 ((s[k + 1]'hk2).toNat : Int)] rfl (by intro u hu; simp at hu; subst hu; rfl) (.slice A acc.length c) acc.length (u8V acc) (by rfl) (o_keep HW.out.ho (grown_drew (grown_drew (grown_drew (grown_drew (grown_set (World.grownBy.refl wr (some X)) 1 (.int .i64 ((k : Int) + 1))))))) (by have := HLT.out; omega)) (by first | rfl | (show (Value.slice (some ⟨wr.heap.size, 0, none⟩) 1 1) = _; simp [World.setCell, World.drew])) (by have := HW.out.hn; omega) (by have := HW.out.hk; have := (Array.getElem?_eq_some_iff.1 this).1; simp; omega) ?_
                  intro A2 c2 W2 ho2 hg2
                  have hX2 : some X ≠ Value.ownBlock (.slice A acc.length c) := fun e => by have := o_from HW.out.ho X e.symm; have := HLT.out; omega
                  have ht2 := ((HW.out.hx.set (k + 1)).drew.drew.drew.drew).grown hg2 hX2
                  have d0 := ht2.cell0
                  have d1 := ht2.cell1
                  have df := ht2.free 1
                  have HT2 := Lib.hid ht2
                  have HO2 := Lib.hid ho2
                  have HG2 := Lib.hid hg2
                  clear ht2 ho2 hg2 hX2 c0 c1 cf
                  go_wp2_with fail
                  go_roundw
                  case rel => exact ⟨(k + 1) + 1, acc ++ [s[k + 1]], (by omega), HW.out.more HLT.out (grown_drew (grown_drew (grown_drew (grown_drew (grown_set (World.grownBy.refl wr (some X)) 1 (.int .i64 ((k : Int) + 1))))))) ((HW.out.hx.set (k + 1)).drew.drew.drew.drew) HO2.out rfl HG2.out rfl (by have := HW.out.hn; omega) HQ.out⟩
                  case measure =>
                    refine Nat.lt_of_le_of_lt (Nat.le_of_eq (congrArg (s.size - ·) (HT2.out.set ((k + 1) + 1)).textAt)) ?_
                    rw [HW.out.hx.textAt]
                    omega
            · have he : (((k : Int) + 1) == (s.size : Int)) = true := by simpa using (by omega : (k : Int) + 1 = (s.size : Int))
              have HQ := Lib.hid (show quotL (s.data.toList.drop k) = none by rw [HDR.out, H92.out, drop_end (by omega)]; rfl)
              go_wp2_with fail
              go_region
              go_wp2_with fail
              go_region
              go_wp2_with fail
              go_region
              go_wp2_with fail
              have hset := (HW.out.hk.grown (grown_set (World.grownBy.refl wr (some X)) 1 (.int .i64 ((k : Int) + 1))) (by have := HLT.out; simp; omega)).set (.int .i64 0) (.string ⟨#[]⟩) (.int .i64 0) (.bool false) (.int .i64 0)
              have r0 := hset.c0; have r1 := hset.c1; have r2 := hset.c2; have r3 := hset.c3; have r4 := hset.c4
              refine bodyPost_ret (v := .tuple #[.agg #[.int .i64 0, .string ⟨#[]⟩, .int .i64 0, .bool false, .int .i64 0], .int .i64 2]) (by simp [results, Tryz.results130, go_sem, r0, r1, r2, r3, r4]) rfl ⟨(grown_drew (grown_drew (grown_drew (grown_tokSet (grown_trans HW.out.hg (grown_set (World.grownBy.refl wr (some X)) 1 (.int .i64 ((k : Int) + 1)))) (Nat.le_refl _) _ _ _ _ _)))), ?_⟩
              rw [HW.out.hq, HQ.out]
              exact ⟨rfl, _, ((HW.out.hx.set (k + 1)).tokSet (by have := HLT.out; omega) _ _ _ _ _).drew.drew.drew⟩
          | false =>
            have HQ := Lib.hid (show quotL (s.data.toList.drop k) = (quotL (s.data.toList.drop (k + 1))).map fun p => (s[k] :: p.1, p.2) by rw [HDR.out, qother _ _ H39.out H10.out (byteNot (d := 92) h92 (by decide))])
            go_wp2_with fail
            go_region
            go_wp2_with fail
            go_region
            go_wp2_with (at_builtin; refine RowKit.Hid.out ?_)
            refine Lib.hid ?_
            refine o_app (W := wr.drew.drew) rfl (.tmp 101) (.tmp 103) 82 5 rfl (.int .u8 0) 1 1 Tryz.underlying82 u8_info rfl (by decide) (by decide) #[.int .u8 ((s[k]'hkl).toNat : Int)] rfl (by intro u hu; simp at hu; subst hu; rfl) (.slice A acc.length c) acc.length (u8V acc) (by rfl) (o_keep HW.out.ho (grown_drew (grown_drew (World.grownBy.refl wr (some X)))) (by have := HLT.out; omega)) (by first | rfl | (show (Value.slice (some ⟨wr.heap.size, 0, none⟩) 1 1) = _; simp [World.setCell, World.drew])) (by have := HW.out.hn; omega) (by have := HW.out.hk; have := (Array.getElem?_eq_some_iff.1 this).1; simp; omega) ?_
            intro A2 c2 W2 ho2 hg2
            have hX2 : some X ≠ Value.ownBlock (.slice A acc.length c) := fun e => by have := o_from HW.out.ho X e.symm; have := HLT.out; omega
            have ht2 := (HW.out.hx.drew.drew).grown hg2 hX2
            have d0 := ht2.cell0
            have d1 := ht2.cell1
            have df := ht2.free 1
            have HT2 := Lib.hid ht2
            have HO2 := Lib.hid ho2
            have HG2 := Lib.hid hg2
            clear ht2 ho2 hg2 hX2 c0 c1 cf
            go_wp2_with fail
            go_roundw
            case rel => exact ⟨k + 1, acc ++ [s[k]], hkl, HW.out.more HLT.out (grown_drew (grown_drew (World.grownBy.refl wr (some X)))) (HW.out.hx.drew.drew) HO2.out rfl HG2.out rfl (by have := HW.out.hn; omega) HQ.out⟩
            case measure =>
              refine Nat.lt_of_le_of_lt (Nat.le_of_eq (congrArg (s.size - ·) (HT2.out.set (k + 1)).textAt)) ?_
              rw [HW.out.hx.textAt]
              omega
    · have hd : decide ((k : Int) < (s.size : Int)) = false := decide_eq_false (by omega)
      have HQ := Lib.hid (show quotL (s.data.toList.drop k) = none by rw [drop_end (by omega)]; rfl)
      go_wp2_with fail
      go_region
      go_wp2_with fail
      have hset := (HW.out.hk.grown (World.grownBy.refl wr (some X)) (by have := HLT.out; simp; omega)).set (.int .i64 0) (.string ⟨#[]⟩) (.int .i64 0) (.bool false) (.int .i64 0)
      have r0 := hset.c0; have r1 := hset.c1; have r2 := hset.c2; have r3 := hset.c3; have r4 := hset.c4
      refine bodyPost_ret (v := .tuple #[.agg #[.int .i64 0, .string ⟨#[]⟩, .int .i64 0, .bool false, .int .i64 0], .int .i64 2]) (by simp [results, Tryz.results130, go_sem, r0, r1, r2, r3, r4]) rfl ⟨(grown_drew (grown_tokSet (grown_trans HW.out.hg (World.grownBy.refl wr (some X))) (Nat.le_refl _) _ _ _ _ _)), ?_⟩
      rw [HW.out.hq, HQ.out]
      exact ⟨rfl, _, (HW.out.hx.tokSet (by have := HLT.out; omega) _ _ _ _ _).drew⟩
end Go.Proofs.YtminbdcabacfbaaGreatDoor.V

namespace Go.Proofs.YtminbdcabacfbaaGreatDoor.V
set_option linter.unusedVariables false
set_option linter.unusedSimpArgs false
open Go.RowKit

/-- What a scanner hands back, cell by cell. -/
def OneV (X : Nat) (s : ByteArray) (g : Got) (W : World) (k : Int) (t : ByteArray) (n : Int) (q : Bool) (er : Int) : Prop := match g with
  | .bad m => k = 0 ∧ t = ⟨#[]⟩ ∧ n = 0 ∧ q = false ∧ er = (m : Int) ∧ ∃ b, IsText X s b W
  | .tok u r => k = (u.k : Int) ∧ t = ⟨u.s.toArray⟩ ∧ n = u.n ∧ q = u.q ∧ er = 0 ∧ ∃ b, b ≤ s.size ∧ s.data.toList.drop b = r ∧ IsText X s b W
theorem OneIs.cells {X : Nat} {s : ByteArray} {g : Got} {w w' : World} {e : Ending} (h : OneIs X s g w e w') : ∃ k t n q er, e = .returned (.tuple #[.agg #[.int .i64 k, .string t, .int .i64 n, .bool q, .int .i64 0], .int .i64 er]) ∧ w.grownBy w' (some X) ∧ OneV X s g w' k t n q er := by
  obtain ⟨hg, h⟩ := h
  cases g with
  | bad m =>
    obtain ⟨he, hb⟩ := h
    exact ⟨_, _, _, _, _, he, hg, rfl, rfl, rfl, rfl, rfl, hb⟩
  | tok u r =>
    obtain ⟨he, hb⟩ := h
    exact ⟨_, _, _, _, _, he, hg, rfl, rfl, rfl, rfl, rfl, hb⟩
theorem OneV.back {X : Nat} {s : ByteArray} {g : Got} {w w' W : World} {k n er : Int} {t : ByteArray} {q : Bool} (h : OneV X s g w' k t n q er) (hW : ∀ b, IsText X s b w' → IsText X s b W) (hg : w.grownBy W (some X)) :
    OneIs X s g w (.returned (.tuple #[.agg #[.int .i64 k, .string t, .int .i64 n, .bool q, .int .i64 0], .int .i64 er])) W := by
  refine ⟨hg, ?_⟩
  cases g with
  | bad m =>
    obtain ⟨rfl, rfl, rfl, rfl, rfl, b, hb⟩ := h
    exact ⟨rfl, b, hW b hb⟩
  | tok u r =>
    obtain ⟨rfl, rfl, rfl, rfl, rfl, b, hb, hd, hT⟩ := h
    exact ⟨rfl, b, hb, hd, hW b hT⟩
theorem named1_calls (X : Nat) (s : ByteArray) (a : Nat) (w : World) (hT : IsText X s a w) (ha : a ≤ s.size) (hs : s.size ≤ 65536) :
    Calls Tryz.prog 127 #[.pointer (some ⟨X, 0, none⟩), .int .i64 1] w (OneIs X s (namedL 1 (s.data.toList.drop a)) w) := named_calls 1 X s a w hT ha hs
theorem named2_calls (X : Nat) (s : ByteArray) (a : Nat) (w : World) (hT : IsText X s a w) (ha : a ≤ s.size) (hs : s.size ≤ 65536) :
    Calls Tryz.prog 127 #[.pointer (some ⟨X, 0, none⟩), .int .i64 2] w (OneIs X s (namedL 2 (s.data.toList.drop a)) w) := named_calls 2 X s a w hT ha hs
theorem prefix45 (c : UInt8) (t : List UInt8) : Lib.hasPrefix (c :: t) [45] = (c == 45) := by
  unfold Lib.hasPrefix
  simp only [List.isPrefixOf, Bool.and_true]
  cases h : (45 == c) <;> cases h2 : (c == 45) <;> simp_all
theorem moreB_at {P : Int → Bool} {s : ByteArray} {a : Nat} (h : a < s.size) : moreB P s a = ofB P s[a] := by unfold moreB; rw [dif_pos h]

set_option maxRecDepth 100000 in
set_option maxHeartbeats 4000000 in
theorem one_small (X : Nat) (s : ByteArray) (a : Nat) (w : World) (hT : IsText X s a w) (ha : a < s.size) (hs : s.size ≤ 65536) (hE : ErrW w) (h45 : (s[a] == 45) = false) (h1 : ofB sml s[a] = true) :
    Calls Tryz.prog 93 #[.pointer (some ⟨X, 0, none⟩)] w (OneIs X s (namedL 1 (s.data.toList.drop a)) w) := by
  have hx := hT.grown (World.grownBy_alloc w (.cells #[.int .i64 0, .string ⟨#[]⟩, .int .i64 0, .bool false, .int .i64 0] 71) none) (by simp)
  have x0 := hx.cell0
  have x1 := hx.cell1
  have HX := Lib.hid hx
  have C0 := Lib.hid x0
  have C1 := Lib.hid x1
  have HLT := Lib.hid hT.lt
  have HK := Lib.hid (IsTok.new (v0 := .int .i64 0) (v1 := .string ⟨#[]⟩) (v2 := .int .i64 0) (v3 := .bool false) (v4 := .int .i64 0) w)
  have HE := Lib.hid (hE.below ((Below.refl w.heap.size w).alloc (Nat.le_refl _) (.cells #[.int .i64 0, .string ⟨#[]⟩, .int .i64 0, .bool false, .int .i64 0] 71)))
  have HP := Lib.hid (show Lib.hasPrefix (s.extract a s.size).data.toList [45] = false by
    rw [show (s.extract a s.size).data.toList = s.data.toList.drop a by
      simp only [ByteArray.data_extract, Array.toList_extract, List.extract]
      rw [List.take_of_length_le (by simp)], drop_at ha, prefix45, h45])
  have HA := Lib.hid (show a ≤ s.size by omega)
  have HPC := Lib.hid (show ∀ w, Calls Tryz.prog 123 #[.string (s.extract a s.size), .string ⟨#[45]⟩] w fun e w' => e = .returned (.bool false) ∧ w' = w from fun w => by rw [← HP.out]; exact Tryz.strings_HasPrefix _ _ _)
  have ha2 : a ≤ s.size := HA.out
  have M0 := Lib.hid (show moreB sml s a = true by rw [moreB_at ha]; exact h1)
  have b39 := 0
  clear b39 hT hx hE h45 h1
  go_enter Tryz.func93, Tryz.ntmps93
  go_wp2_with fail
  go_quiet (first | (go_at_call 123; refine Calls.quiet_of_same (HPC.out _)))
  generalize hW1 : World.drewN _ _ = W1
  have HX1 := Lib.hid (show IsText X s a W1 by rw [← hW1]; exact HX.out)
  have HK1 := Lib.hid (show IsTok w.heap.size (.int .i64 0) (.string ⟨#[]⟩) (.int .i64 0) (.bool false) (.int .i64 0) W1 by rw [← hW1]; exact HK.out)
  have HE1 := Lib.hid (show ErrW W1 by rw [← hW1]; exact HE.out)
  have HG1 := Lib.hid (show w.grownBy W1 (some X) by rw [← hW1]; exact grown_trans (World.grownBy_alloc w (.cells #[.int .i64 0, .string ⟨#[]⟩, .int .i64 0, .bool false, .int .i64 0] 71) _) (grown_below (below_drewN' (Below.refl _ _) _) _))
  have c0 := HX1.out.cell0
  have c1 := HX1.out.cell1
  clear hW1 x0 x1
  go_wp2_with (first
    | (go_at_call 118; (with_reducible refine (more_calls en_small tsmall_calls X s a _ ?_).mono ?_); (focus (exact HX1.out)); rintro e w' ⟨rfl, rfl⟩; rw [M0.out])
    | (go_at_call 127; (with_reducible refine (named1_calls X s a _ ?_ HA.out hs).mono ?_); (focus (exact HX1.out)); rintro e w2 ho; obtain ⟨k, t, n, q, er, rfl, hg2, hv⟩ := ho.cells; have hk2 := HK1.out.grown (row := some X) (grown_trans (grown_drew (World.grownBy.refl _ (some X))) hg2) (by have := HLT.out; simp; omega); have k0 := hk2.c0; have k1 := hk2.c1; have k2 := hk2.c2; have k3 := hk2.c3; have k4 := hk2.c4; have l0 := hk2.fr 0; have l1 := hk2.fr 1; have l2 := hk2.fr 2; have l3 := hk2.fr 3; have l4 := hk2.fr 4; have HK2 := Lib.hid hk2; have HG2 := Lib.hid hg2; have HV := Lib.hid hv; clear hk2 hg2 hv ho))
  have hset := HK2.out.set (.int .i64 k) (.string t) (.int .i64 n) (.bool q) (.int .i64 0)
  have r0 := hset.c0; have r1 := hset.c1; have r2 := hset.c2; have r3 := hset.c3; have r4 := hset.c4
  refine bodyPost_ret (v := .tuple #[.agg #[.int .i64 k, .string t, .int .i64 n, .bool q, .int .i64 0], .int .i64 er]) (by simp [results, Tryz.results93, go_sem, r0, r1, r2, r3, r4]) rfl ?_
  exact HV.out.back (fun b hb => hb.tokSet (by have := HLT.out; omega) _ _ _ _ _) (grown_tokSet (grown_trans HG1.out (grown_trans (grown_drew (World.grownBy.refl _ (some X))) HG2.out)) (Nat.le_refl _) _ _ _ _ _)

set_option maxRecDepth 100000 in
set_option maxHeartbeats 4000000 in
theorem one_big (X : Nat) (s : ByteArray) (a : Nat) (w : World) (hT : IsText X s a w) (ha : a < s.size) (hs : s.size ≤ 65536) (hE : ErrW w) (h45 : (s[a] == 45) = false) (h1 : ofB sml s[a] = false) (h2 : ofB bgI s[a] = true) :
    Calls Tryz.prog 93 #[.pointer (some ⟨X, 0, none⟩)] w (OneIs X s (namedL 2 (s.data.toList.drop a)) w) := by
  have hx := hT.grown (World.grownBy_alloc w (.cells #[.int .i64 0, .string ⟨#[]⟩, .int .i64 0, .bool false, .int .i64 0] 71) none) (by simp)
  have x0 := hx.cell0
  have x1 := hx.cell1
  have HX := Lib.hid hx
  have C0 := Lib.hid x0
  have C1 := Lib.hid x1
  have HLT := Lib.hid hT.lt
  have HK := Lib.hid (IsTok.new (v0 := .int .i64 0) (v1 := .string ⟨#[]⟩) (v2 := .int .i64 0) (v3 := .bool false) (v4 := .int .i64 0) w)
  have HE := Lib.hid (hE.below ((Below.refl w.heap.size w).alloc (Nat.le_refl _) (.cells #[.int .i64 0, .string ⟨#[]⟩, .int .i64 0, .bool false, .int .i64 0] 71)))
  have HP := Lib.hid (show Lib.hasPrefix (s.extract a s.size).data.toList [45] = false by
    rw [show (s.extract a s.size).data.toList = s.data.toList.drop a by
      simp only [ByteArray.data_extract, Array.toList_extract, List.extract]
      rw [List.take_of_length_le (by simp)], drop_at ha, prefix45, h45])
  have HA := Lib.hid (show a ≤ s.size by omega)
  have HPC := Lib.hid (show ∀ w, Calls Tryz.prog 123 #[.string (s.extract a s.size), .string ⟨#[45]⟩] w fun e w' => e = .returned (.bool false) ∧ w' = w from fun w => by rw [← HP.out]; exact Tryz.strings_HasPrefix _ _ _)
  have ha2 : a ≤ s.size := HA.out
  have M0 := Lib.hid (show moreB sml s a = false by rw [moreB_at ha]; exact h1)
  have M1 := Lib.hid (show moreB bgI s a = true by rw [moreB_at ha]; exact h2)
  have b39 := 0
  clear b39 hT hx hE h45 h1 h2
  go_enter Tryz.func93, Tryz.ntmps93
  go_wp2_with fail
  go_quiet (first | (go_at_call 123; refine Calls.quiet_of_same (HPC.out _)))
  generalize hW1 : World.drewN _ _ = W1
  have HX1 := Lib.hid (show IsText X s a W1 by rw [← hW1]; exact HX.out)
  have HK1 := Lib.hid (show IsTok w.heap.size (.int .i64 0) (.string ⟨#[]⟩) (.int .i64 0) (.bool false) (.int .i64 0) W1 by rw [← hW1]; exact HK.out)
  have HE1 := Lib.hid (show ErrW W1 by rw [← hW1]; exact HE.out)
  have HG1 := Lib.hid (show w.grownBy W1 (some X) by rw [← hW1]; exact grown_trans (World.grownBy_alloc w (.cells #[.int .i64 0, .string ⟨#[]⟩, .int .i64 0, .bool false, .int .i64 0] 71) _) (grown_below (below_drewN' (Below.refl _ _) _) _))
  have c0 := HX1.out.cell0
  have c1 := HX1.out.cell1
  clear hW1 x0 x1
  go_wp2_with (first
    | (go_at_call 118; (with_reducible refine (more_calls en_small tsmall_calls X s a _ ?_).mono ?_); (focus (exact HX1.out)); rintro e w' ⟨rfl, rfl⟩; rw [M0.out])
    | (go_at_call 118; (with_reducible refine (more_calls en_big tbig_calls X s a _ ?_).mono ?_); (focus (exact HX1.out)); rintro e w' ⟨rfl, rfl⟩; rw [M1.out])
    | (go_at_call 127; (with_reducible refine (named2_calls X s a _ ?_ HA.out hs).mono ?_); (focus (exact HX1.out)); rintro e w2 ho; obtain ⟨k, t, n, q, er, rfl, hg2, hv⟩ := ho.cells; have hk2 := HK1.out.grown (row := some X) (grown_trans (grown_drew (grown_drew (World.grownBy.refl _ (some X)))) hg2) (by have := HLT.out; simp; omega); have k0 := hk2.c0; have k1 := hk2.c1; have k2 := hk2.c2; have k3 := hk2.c3; have k4 := hk2.c4; have l0 := hk2.fr 0; have l1 := hk2.fr 1; have l2 := hk2.fr 2; have l3 := hk2.fr 3; have l4 := hk2.fr 4; have HK2 := Lib.hid hk2; have HG2 := Lib.hid hg2; have HV := Lib.hid hv; clear hk2 hg2 hv ho))
  have hset := HK2.out.set (.int .i64 k) (.string t) (.int .i64 n) (.bool q) (.int .i64 0)
  have r0 := hset.c0; have r1 := hset.c1; have r2 := hset.c2; have r3 := hset.c3; have r4 := hset.c4
  refine bodyPost_ret (v := .tuple #[.agg #[.int .i64 k, .string t, .int .i64 n, .bool q, .int .i64 0], .int .i64 er]) (by simp [results, Tryz.results93, go_sem, r0, r1, r2, r3, r4]) rfl ?_
  exact HV.out.back (fun b hb => hb.tokSet (by have := HLT.out; omega) _ _ _ _ _) (grown_tokSet (grown_trans HG1.out (grown_trans (grown_drew (grown_drew (World.grownBy.refl _ (some X)))) HG2.out)) (Nat.le_refl _) _ _ _ _ _)

set_option maxRecDepth 100000 in
set_option maxHeartbeats 4000000 in
theorem one_fig (X : Nat) (s : ByteArray) (a : Nat) (w : World) (hT : IsText X s a w) (ha : a < s.size) (hs : s.size ≤ 65536) (hE : ErrW w) (h45 : (s[a] == 45) = false) (h1 : ofB sml s[a] = false) (h2 : ofB bgI s[a] = false) (h3 : ofB figI s[a] = true) :
    Calls Tryz.prog 93 #[.pointer (some ⟨X, 0, none⟩)] w (OneIs X s (numL s[a] (s.data.toList.drop (a + 1))) w) := by
  have hx := hT.grown (World.grownBy_alloc w (.cells #[.int .i64 0, .string ⟨#[]⟩, .int .i64 0, .bool false, .int .i64 0] 71) none) (by simp)
  have x0 := hx.cell0
  have x1 := hx.cell1
  have HX := Lib.hid hx
  have C0 := Lib.hid x0
  have C1 := Lib.hid x1
  have HLT := Lib.hid hT.lt
  have HK := Lib.hid (IsTok.new (v0 := .int .i64 0) (v1 := .string ⟨#[]⟩) (v2 := .int .i64 0) (v3 := .bool false) (v4 := .int .i64 0) w)
  have HE := Lib.hid (hE.below ((Below.refl w.heap.size w).alloc (Nat.le_refl _) (.cells #[.int .i64 0, .string ⟨#[]⟩, .int .i64 0, .bool false, .int .i64 0] 71)))
  have HP := Lib.hid (show Lib.hasPrefix (s.extract a s.size).data.toList [45] = false by
    rw [show (s.extract a s.size).data.toList = s.data.toList.drop a by
      simp only [ByteArray.data_extract, Array.toList_extract, List.extract]
      rw [List.take_of_length_le (by simp)], drop_at ha, prefix45, h45])
  have HA := Lib.hid (show a ≤ s.size by omega)
  have HPC := Lib.hid (show ∀ w, Calls Tryz.prog 123 #[.string (s.extract a s.size), .string ⟨#[45]⟩] w fun e w' => e = .returned (.bool false) ∧ w' = w from fun w => by rw [← HP.out]; exact Tryz.strings_HasPrefix _ _ _)
  have ha2 : a ≤ s.size := HA.out
  have M0 := Lib.hid (show moreB sml s a = false by rw [moreB_at ha]; exact h1)
  have M1 := Lib.hid (show moreB bgI s a = false by rw [moreB_at ha]; exact h2)
  have M2 := Lib.hid (show moreB figI s a = true by rw [moreB_at ha]; exact h3)
  have b39 := 0
  clear b39 hT hx hE h45 h1 h2 h3
  go_enter Tryz.func93, Tryz.ntmps93
  go_wp2_with fail
  go_quiet (first | (go_at_call 123; refine Calls.quiet_of_same (HPC.out _)))
  generalize hW1 : World.drewN _ _ = W1
  have HX1 := Lib.hid (show IsText X s a W1 by rw [← hW1]; exact HX.out)
  have HK1 := Lib.hid (show IsTok w.heap.size (.int .i64 0) (.string ⟨#[]⟩) (.int .i64 0) (.bool false) (.int .i64 0) W1 by rw [← hW1]; exact HK.out)
  have HE1 := Lib.hid (show ErrW W1 by rw [← hW1]; exact HE.out)
  have HG1 := Lib.hid (show w.grownBy W1 (some X) by rw [← hW1]; exact grown_trans (World.grownBy_alloc w (.cells #[.int .i64 0, .string ⟨#[]⟩, .int .i64 0, .bool false, .int .i64 0] 71) _) (grown_below (below_drewN' (Below.refl _ _) _) _))
  have c0 := HX1.out.cell0
  have c1 := HX1.out.cell1
  clear hW1 x0 x1
  go_wp2_with (first
    | (go_at_call 118; (with_reducible refine (more_calls en_small tsmall_calls X s a _ ?_).mono ?_); (focus (exact HX1.out)); rintro e w' ⟨rfl, rfl⟩; rw [M0.out])
    | (go_at_call 118; (with_reducible refine (more_calls en_big tbig_calls X s a _ ?_).mono ?_); (focus (exact HX1.out)); rintro e w' ⟨rfl, rfl⟩; rw [M1.out])
    | (go_at_call 118; (with_reducible refine (more_calls en_fig tfig_calls X s a _ ?_).mono ?_); (focus (exact HX1.out)); rintro e w' ⟨rfl, rfl⟩; rw [M2.out])
    | (go_at_call 129; (with_reducible refine (number_calls X s a _ ?_ ha hs ?_).mono ?_); (focus (exact HX1.out)); (focus (exact HE1.out)); rintro e w2 ho; obtain ⟨k, t, n, q, er, rfl, hg2, hv⟩ := ho.cells; have hk2 := HK1.out.grown (row := some X) (grown_trans (grown_drew (grown_drew (grown_drew (World.grownBy.refl _ (some X))))) hg2) (by have := HLT.out; simp; omega); have k0 := hk2.c0; have k1 := hk2.c1; have k2 := hk2.c2; have k3 := hk2.c3; have k4 := hk2.c4; have l0 := hk2.fr 0; have l1 := hk2.fr 1; have l2 := hk2.fr 2; have l3 := hk2.fr 3; have l4 := hk2.fr 4; have HK2 := Lib.hid hk2; have HG2 := Lib.hid hg2; have HV := Lib.hid hv; clear hk2 hg2 hv ho))
  have hset := HK2.out.set (.int .i64 k) (.string t) (.int .i64 n) (.bool q) (.int .i64 0)
  have r0 := hset.c0; have r1 := hset.c1; have r2 := hset.c2; have r3 := hset.c3; have r4 := hset.c4
  refine bodyPost_ret (v := .tuple #[.agg #[.int .i64 k, .string t, .int .i64 n, .bool q, .int .i64 0], .int .i64 er]) (by simp [results, Tryz.results93, go_sem, r0, r1, r2, r3, r4]) rfl ?_
  exact HV.out.back (fun b hb => hb.tokSet (by have := HLT.out; omega) _ _ _ _ _) (grown_tokSet (grown_trans HG1.out (grown_trans (grown_drew (grown_drew (grown_drew (World.grownBy.refl _ (some X))))) HG2.out)) (Nat.le_refl _) _ _ _ _ _)

set_option maxRecDepth 100000 in
set_option maxHeartbeats 4000000 in
theorem one_neg (X : Nat) (s : ByteArray) (a : Nat) (w : World) (hT : IsText X s a w) (ha : a < s.size) (hs : s.size ≤ 65536) (hE : ErrW w) (h45 : (s[a] == 45) = true) (hk2 : a + 1 < s.size) (h4 : ofB figI s[a + 1] = true) (h1 : ofB sml s[a] = false) (h2 : ofB bgI s[a] = false) (h3 : ofB figI s[a] = false) :
    Calls Tryz.prog 93 #[.pointer (some ⟨X, 0, none⟩)] w (OneIs X s (numL s[a] (s.data.toList.drop (a + 1))) w) := by
  have hx := hT.grown (World.grownBy_alloc w (.cells #[.int .i64 0, .string ⟨#[]⟩, .int .i64 0, .bool false, .int .i64 0] 71) none) (by simp)
  have x0 := hx.cell0
  have x1 := hx.cell1
  have HX := Lib.hid hx
  have C0 := Lib.hid x0
  have C1 := Lib.hid x1
  have HLT := Lib.hid hT.lt
  have HK := Lib.hid (IsTok.new (v0 := .int .i64 0) (v1 := .string ⟨#[]⟩) (v2 := .int .i64 0) (v3 := .bool false) (v4 := .int .i64 0) w)
  have HE := Lib.hid (hE.below ((Below.refl w.heap.size w).alloc (Nat.le_refl _) (.cells #[.int .i64 0, .string ⟨#[]⟩, .int .i64 0, .bool false, .int .i64 0] 71)))
  have HP := Lib.hid (show Lib.hasPrefix (s.extract a s.size).data.toList [45] = true by
    rw [show (s.extract a s.size).data.toList = s.data.toList.drop a by
      simp only [ByteArray.data_extract, Array.toList_extract, List.extract]
      rw [List.take_of_length_le (by simp)], drop_at ha, prefix45, h45])
  have HA := Lib.hid (show a ≤ s.size by omega)
  have HPC := Lib.hid (show ∀ w, Calls Tryz.prog 123 #[.string (s.extract a s.size), .string ⟨#[45]⟩] w fun e w' => e = .returned (.bool true) ∧ w' = w from fun w => by rw [← HP.out]; exact Tryz.strings_HasPrefix _ _ _)
  have ha2 : a ≤ s.size := HA.out
  have M0 := Lib.hid (show moreB sml s a = false by rw [moreB_at ha]; exact h1)
  have M1 := Lib.hid (show moreB bgI s a = false by rw [moreB_at ha]; exact h2)
  have M2 := Lib.hid (show moreB figI s a = false by rw [moreB_at ha]; exact h3)
  have hlt2 : decide ((a : Int) + 1 < (s.size : Int)) = true := decide_eq_true (by omega)
  have hlt3 : (a : Int) + 1 < (s.size : Int) := by omega
  have hwr : IntKind.i64.wrap ((a : Int) + 1) = (a : Int) + 1 := IntWalk.i64_in _ (by omega)
  have HF := Lib.hid (show figI ((s[a + 1]'hk2).toNat : Int) = true from h4)
  have HFC := Lib.hid (show ∀ w, Calls Tryz.prog 124 #[.int .u8 ((s[a + 1]'hk2).toNat : Int)] w fun e w' => e = .returned (.bool true) ∧ w' = w from fun w => (tfig_calls _ w).mono (by rintro e w' ⟨rfl, rfl⟩; exact ⟨by rw [HF.out], rfl⟩))
  have b39 := 0
  clear b39 hT hx hE h45 h1 h2 h3 h4
  go_enter Tryz.func93, Tryz.ntmps93
  go_wp2_with fail
  go_region_held3 (fun W => W.cell? ⟨X, 0, none⟩ = some (.string s) ∧ W.cell? ⟨X, 1, none⟩ = some (.int .i64 (a : Int)))
    ((go_split_ands; refine ⟨?_, ?_⟩; (focus (first | with_reducible assumption | (refine cell_below (w := w.alloc (.cells #[.int .i64 0, .string ⟨#[]⟩, .int .i64 0, .bool false, .int .i64 0] 71)) ?_ C0.out; (focus (repeat (first | with_reducible assumption | with_reducible exact Below.refl _ _ | with_reducible apply Below.drew)))))); (focus (first | with_reducible assumption | (refine cell_below (w := w.alloc (.cells #[.int .i64 0, .string ⟨#[]⟩, .int .i64 0, .bool false, .int .i64 0] 71)) ?_ C1.out; (focus (repeat (first | with_reducible assumption | with_reducible exact Below.refl _ _ | with_reducible apply Below.drew))))))))
    (first
      | (go_at_call 123; (with_reducible refine (HPC.out _).mono ?_); rintro e w' ⟨rfl, hw⟩; rw [hw]; clear hw)
      | (go_at_call 124; (with_reducible refine (HFC.out _).mono ?_); rintro e w' ⟨rfl, hw⟩; rw [hw]; clear hw))
  generalize hW1 : World.drew _ = W1
  have HX1 := Lib.hid (show IsText X s a W1 by rw [← hW1]; exact HX.out)
  have HK1 := Lib.hid (show IsTok w.heap.size (.int .i64 0) (.string ⟨#[]⟩) (.int .i64 0) (.bool false) (.int .i64 0) W1 by rw [← hW1]; exact HK.out)
  have HE1 := Lib.hid (show ErrW W1 by rw [← hW1]; exact HE.out)
  have HG1 := Lib.hid (show w.grownBy W1 (some X) by rw [← hW1]; exact grown_trans (World.grownBy_alloc w (.cells #[.int .i64 0, .string ⟨#[]⟩, .int .i64 0, .bool false, .int .i64 0] 71) _) (grown_below (Below.refl _ _).drew _))
  have c0 := HX1.out.cell0
  have c1 := HX1.out.cell1
  clear hW1 x0 x1
  go_wp2_with (first
    | (go_at_call 118; (with_reducible refine (more_calls en_small tsmall_calls X s a _ ?_).mono ?_); (focus (exact HX1.out)); rintro e w' ⟨rfl, rfl⟩; rw [M0.out])
    | (go_at_call 118; (with_reducible refine (more_calls en_big tbig_calls X s a _ ?_).mono ?_); (focus (exact HX1.out)); rintro e w' ⟨rfl, rfl⟩; rw [M1.out])
    | (go_at_call 118; (with_reducible refine (more_calls en_fig tfig_calls X s a _ ?_).mono ?_); (focus (exact HX1.out)); rintro e w' ⟨rfl, rfl⟩; rw [M2.out])
    | (go_at_call 129; (with_reducible refine (number_calls X s a _ ?_ ha hs ?_).mono ?_); (focus (exact HX1.out)); (focus (exact HE1.out)); rintro e w2 ho; obtain ⟨k, t, n, q, er, rfl, hg2, hv⟩ := ho.cells; have hk2 := HK1.out.grown (row := some X) (grown_trans (grown_drew (grown_drew (grown_drew (World.grownBy.refl _ (some X))))) hg2) (by have := HLT.out; simp; omega); have k0 := hk2.c0; have k1 := hk2.c1; have k2 := hk2.c2; have k3 := hk2.c3; have k4 := hk2.c4; have l0 := hk2.fr 0; have l1 := hk2.fr 1; have l2 := hk2.fr 2; have l3 := hk2.fr 3; have l4 := hk2.fr 4; have HK2 := Lib.hid hk2; have HG2 := Lib.hid hg2; have HV := Lib.hid hv; clear hk2 hg2 hv ho))
  have hset := HK2.out.set (.int .i64 k) (.string t) (.int .i64 n) (.bool q) (.int .i64 0)
  have r0 := hset.c0; have r1 := hset.c1; have r2 := hset.c2; have r3 := hset.c3; have r4 := hset.c4
  refine bodyPost_ret (v := .tuple #[.agg #[.int .i64 k, .string t, .int .i64 n, .bool q, .int .i64 0], .int .i64 er]) (by simp [results, Tryz.results93, go_sem, r0, r1, r2, r3, r4]) rfl ?_
  exact HV.out.back (fun b hb => hb.tokSet (by have := HLT.out; omega) _ _ _ _ _) (grown_tokSet (grown_trans HG1.out (grown_trans (grown_drew (grown_drew (grown_drew (World.grownBy.refl _ (some X))))) HG2.out)) (Nat.le_refl _) _ _ _ _ _)

set_option maxRecDepth 100000 in
set_option maxHeartbeats 4000000 in
theorem one_quot (X : Nat) (s : ByteArray) (a : Nat) (w : World) (hT : IsText X s a w) (ha : a < s.size) (hs : s.size ≤ 65536) (hE : ErrW w) (h45 : (s[a] == 45) = false) (h1 : ofB sml s[a] = false) (h2 : ofB bgI s[a] = false) (h3 : ofB figI s[a] = false) (h39 : (((s[a]'ha).toNat : Int) == 39) = true) :
    Calls Tryz.prog 93 #[.pointer (some ⟨X, 0, none⟩)] w (OneIs X s (qres (quotL (s.data.toList.drop (a + 1)))) w) := by
  have hx := hT.grown (World.grownBy_alloc w (.cells #[.int .i64 0, .string ⟨#[]⟩, .int .i64 0, .bool false, .int .i64 0] 71) none) (by simp)
  have x0 := hx.cell0
  have x1 := hx.cell1
  have HX := Lib.hid hx
  have C0 := Lib.hid x0
  have C1 := Lib.hid x1
  have HLT := Lib.hid hT.lt
  have HK := Lib.hid (IsTok.new (v0 := .int .i64 0) (v1 := .string ⟨#[]⟩) (v2 := .int .i64 0) (v3 := .bool false) (v4 := .int .i64 0) w)
  have HE := Lib.hid (hE.below ((Below.refl w.heap.size w).alloc (Nat.le_refl _) (.cells #[.int .i64 0, .string ⟨#[]⟩, .int .i64 0, .bool false, .int .i64 0] 71)))
  have HP := Lib.hid (show Lib.hasPrefix (s.extract a s.size).data.toList [45] = false by
    rw [show (s.extract a s.size).data.toList = s.data.toList.drop a by
      simp only [ByteArray.data_extract, Array.toList_extract, List.extract]
      rw [List.take_of_length_le (by simp)], drop_at ha, prefix45, h45])
  have HA := Lib.hid (show a ≤ s.size by omega)
  have HPC := Lib.hid (show ∀ w, Calls Tryz.prog 123 #[.string (s.extract a s.size), .string ⟨#[45]⟩] w fun e w' => e = .returned (.bool false) ∧ w' = w from fun w => by rw [← HP.out]; exact Tryz.strings_HasPrefix _ _ _)
  have ha2 : a ≤ s.size := HA.out
  have M0 := Lib.hid (show moreB sml s a = false by rw [moreB_at ha]; exact h1)
  have M1 := Lib.hid (show moreB bgI s a = false by rw [moreB_at ha]; exact h2)
  have M2 := Lib.hid (show moreB figI s a = false by rw [moreB_at ha]; exact h3)
  have b39 := 0
  clear b39 hT hx hE h45 h1 h2 h3
  go_enter Tryz.func93, Tryz.ntmps93
  go_wp2_with fail
  go_quiet (first | (go_at_call 123; refine Calls.quiet_of_same (HPC.out _)))
  generalize hW1 : World.drewN _ _ = W1
  have HX1 := Lib.hid (show IsText X s a W1 by rw [← hW1]; exact HX.out)
  have HK1 := Lib.hid (show IsTok w.heap.size (.int .i64 0) (.string ⟨#[]⟩) (.int .i64 0) (.bool false) (.int .i64 0) W1 by rw [← hW1]; exact HK.out)
  have HE1 := Lib.hid (show ErrW W1 by rw [← hW1]; exact HE.out)
  have HG1 := Lib.hid (show w.grownBy W1 (some X) by rw [← hW1]; exact grown_trans (World.grownBy_alloc w (.cells #[.int .i64 0, .string ⟨#[]⟩, .int .i64 0, .bool false, .int .i64 0] 71) _) (grown_below (below_drewN' (Below.refl _ _) _) _))
  have c0 := HX1.out.cell0
  have c1 := HX1.out.cell1
  clear hW1 x0 x1
  go_wp2_with (first
    | (go_at_call 118; (with_reducible refine (more_calls en_small tsmall_calls X s a _ ?_).mono ?_); (focus (exact HX1.out)); rintro e w' ⟨rfl, rfl⟩; rw [M0.out])
    | (go_at_call 118; (with_reducible refine (more_calls en_big tbig_calls X s a _ ?_).mono ?_); (focus (exact HX1.out)); rintro e w' ⟨rfl, rfl⟩; rw [M1.out])
    | (go_at_call 118; (with_reducible refine (more_calls en_fig tfig_calls X s a _ ?_).mono ?_); (focus (exact HX1.out)); rintro e w' ⟨rfl, rfl⟩; rw [M2.out]))
  go_region
  go_wp2_with (first
    | (go_at_call 130; (with_reducible refine (quoted_calls X s a _ ?_ ha hs).mono ?_); (focus (exact HX1.out)); rintro e w2 ho; obtain ⟨k, t, n, q, er, rfl, hg2, hv⟩ := ho.cells; have hk2 := HK1.out.grown (row := some X) (grown_trans (grown_drew (grown_drew (grown_drew (grown_drew (World.grownBy.refl _ (some X)))))) hg2) (by have := HLT.out; simp; omega); have k0 := hk2.c0; have k1 := hk2.c1; have k2 := hk2.c2; have k3 := hk2.c3; have k4 := hk2.c4; have l0 := hk2.fr 0; have l1 := hk2.fr 1; have l2 := hk2.fr 2; have l3 := hk2.fr 3; have l4 := hk2.fr 4; have HK2 := Lib.hid hk2; have HG2 := Lib.hid hg2; have HV := Lib.hid hv; clear hk2 hg2 hv ho))
  have hset := HK2.out.set (.int .i64 k) (.string t) (.int .i64 n) (.bool q) (.int .i64 0)
  have r0 := hset.c0; have r1 := hset.c1; have r2 := hset.c2; have r3 := hset.c3; have r4 := hset.c4
  refine bodyPost_ret (v := .tuple #[.agg #[.int .i64 k, .string t, .int .i64 n, .bool q, .int .i64 0], .int .i64 er]) (by simp [results, Tryz.results93, go_sem, r0, r1, r2, r3, r4]) rfl ?_
  exact HV.out.back (fun b hb => hb.tokSet (by have := HLT.out; omega) _ _ _ _ _) (grown_tokSet (grown_trans HG1.out (grown_trans (grown_drew (grown_drew (grown_drew (grown_drew (World.grownBy.refl _ (some X)))))) HG2.out)) (Nat.le_refl _) _ _ _ _ _)

set_option maxRecDepth 100000 in
set_option maxHeartbeats 4000000 in
theorem one_mark (X : Nat) (s : ByteArray) (a : Nat) (w : World) (hT : IsText X s a w) (ha : a < s.size) (hs : s.size ≤ 65536) (hE : ErrW w) (h45 : (s[a] == 45) = false) (h1 : ofB sml s[a] = false) (h2 : ofB bgI s[a] = false) (h3 : ofB figI s[a] = false) (h39 : (((s[a]'ha).toNat : Int) == 39) = false) :
    Calls Tryz.prog 93 #[.pointer (some ⟨X, 0, none⟩)] w (OneIs X s (markL (s.data.toList.drop a)) w) := by
  have hx := hT.grown (World.grownBy_alloc w (.cells #[.int .i64 0, .string ⟨#[]⟩, .int .i64 0, .bool false, .int .i64 0] 71) none) (by simp)
  have x0 := hx.cell0
  have x1 := hx.cell1
  have HX := Lib.hid hx
  have C0 := Lib.hid x0
  have C1 := Lib.hid x1
  have HLT := Lib.hid hT.lt
  have HK := Lib.hid (IsTok.new (v0 := .int .i64 0) (v1 := .string ⟨#[]⟩) (v2 := .int .i64 0) (v3 := .bool false) (v4 := .int .i64 0) w)
  have HE := Lib.hid (hE.below ((Below.refl w.heap.size w).alloc (Nat.le_refl _) (.cells #[.int .i64 0, .string ⟨#[]⟩, .int .i64 0, .bool false, .int .i64 0] 71)))
  have HP := Lib.hid (show Lib.hasPrefix (s.extract a s.size).data.toList [45] = false by
    rw [show (s.extract a s.size).data.toList = s.data.toList.drop a by
      simp only [ByteArray.data_extract, Array.toList_extract, List.extract]
      rw [List.take_of_length_le (by simp)], drop_at ha, prefix45, h45])
  have HA := Lib.hid (show a ≤ s.size by omega)
  have HPC := Lib.hid (show ∀ w, Calls Tryz.prog 123 #[.string (s.extract a s.size), .string ⟨#[45]⟩] w fun e w' => e = .returned (.bool false) ∧ w' = w from fun w => by rw [← HP.out]; exact Tryz.strings_HasPrefix _ _ _)
  have ha2 : a ≤ s.size := HA.out
  have M0 := Lib.hid (show moreB sml s a = false by rw [moreB_at ha]; exact h1)
  have M1 := Lib.hid (show moreB bgI s a = false by rw [moreB_at ha]; exact h2)
  have M2 := Lib.hid (show moreB figI s a = false by rw [moreB_at ha]; exact h3)
  have b39 := 0
  clear b39 hT hx hE h45 h1 h2 h3
  go_enter Tryz.func93, Tryz.ntmps93
  go_wp2_with fail
  go_quiet (first | (go_at_call 123; refine Calls.quiet_of_same (HPC.out _)))
  generalize hW1 : World.drewN _ _ = W1
  have HX1 := Lib.hid (show IsText X s a W1 by rw [← hW1]; exact HX.out)
  have HK1 := Lib.hid (show IsTok w.heap.size (.int .i64 0) (.string ⟨#[]⟩) (.int .i64 0) (.bool false) (.int .i64 0) W1 by rw [← hW1]; exact HK.out)
  have HE1 := Lib.hid (show ErrW W1 by rw [← hW1]; exact HE.out)
  have HG1 := Lib.hid (show w.grownBy W1 (some X) by rw [← hW1]; exact grown_trans (World.grownBy_alloc w (.cells #[.int .i64 0, .string ⟨#[]⟩, .int .i64 0, .bool false, .int .i64 0] 71) _) (grown_below (below_drewN' (Below.refl _ _) _) _))
  have c0 := HX1.out.cell0
  have c1 := HX1.out.cell1
  clear hW1 x0 x1
  go_wp2_with (first
    | (go_at_call 118; (with_reducible refine (more_calls en_small tsmall_calls X s a _ ?_).mono ?_); (focus (exact HX1.out)); rintro e w' ⟨rfl, rfl⟩; rw [M0.out])
    | (go_at_call 118; (with_reducible refine (more_calls en_big tbig_calls X s a _ ?_).mono ?_); (focus (exact HX1.out)); rintro e w' ⟨rfl, rfl⟩; rw [M1.out])
    | (go_at_call 118; (with_reducible refine (more_calls en_fig tfig_calls X s a _ ?_).mono ?_); (focus (exact HX1.out)); rintro e w' ⟨rfl, rfl⟩; rw [M2.out]))
  go_region
  go_wp2_with (first
    | (go_at_call 125; (with_reducible refine (mark_calls X s a _ ?_ ha hs).mono ?_); (focus (exact HX1.out)); rintro e w2 ho; obtain ⟨k, t, n, q, er, rfl, hg2, hv⟩ := ho.cells; have hk2 := HK1.out.grown (row := some X) (grown_trans (grown_drew (grown_drew (grown_drew (grown_drew (World.grownBy.refl _ (some X)))))) hg2) (by have := HLT.out; simp; omega); have k0 := hk2.c0; have k1 := hk2.c1; have k2 := hk2.c2; have k3 := hk2.c3; have k4 := hk2.c4; have l0 := hk2.fr 0; have l1 := hk2.fr 1; have l2 := hk2.fr 2; have l3 := hk2.fr 3; have l4 := hk2.fr 4; have HK2 := Lib.hid hk2; have HG2 := Lib.hid hg2; have HV := Lib.hid hv; clear hk2 hg2 hv ho))
  have hset := HK2.out.set (.int .i64 k) (.string t) (.int .i64 n) (.bool q) (.int .i64 0)
  have r0 := hset.c0; have r1 := hset.c1; have r2 := hset.c2; have r3 := hset.c3; have r4 := hset.c4
  refine bodyPost_ret (v := .tuple #[.agg #[.int .i64 k, .string t, .int .i64 n, .bool q, .int .i64 0], .int .i64 er]) (by simp [results, Tryz.results93, go_sem, r0, r1, r2, r3, r4]) rfl ?_
  exact HV.out.back (fun b hb => hb.tokSet (by have := HLT.out; omega) _ _ _ _ _) (grown_tokSet (grown_trans HG1.out (grown_trans (grown_drew (grown_drew (grown_drew (grown_drew (World.grownBy.refl _ (some X)))))) HG2.out)) (Nat.le_refl _) _ _ _ _ _)

set_option maxRecDepth 100000 in
set_option maxHeartbeats 4000000 in
theorem one_dash (X : Nat) (s : ByteArray) (a : Nat) (w : World) (hT : IsText X s a w) (ha : a < s.size) (hs : s.size ≤ 65536) (hE : ErrW w) (h45 : (s[a] == 45) = true) (hk2 : a + 1 < s.size) (h4 : ofB figI s[a + 1] = false) (h1 : ofB sml s[a] = false) (h2 : ofB bgI s[a] = false) (h3 : ofB figI s[a] = false) (h39 : (((s[a]'ha).toNat : Int) == 39) = false) :
    Calls Tryz.prog 93 #[.pointer (some ⟨X, 0, none⟩)] w (OneIs X s (markL (s.data.toList.drop a)) w) := by
  have hx := hT.grown (World.grownBy_alloc w (.cells #[.int .i64 0, .string ⟨#[]⟩, .int .i64 0, .bool false, .int .i64 0] 71) none) (by simp)
  have x0 := hx.cell0
  have x1 := hx.cell1
  have HX := Lib.hid hx
  have C0 := Lib.hid x0
  have C1 := Lib.hid x1
  have HLT := Lib.hid hT.lt
  have HK := Lib.hid (IsTok.new (v0 := .int .i64 0) (v1 := .string ⟨#[]⟩) (v2 := .int .i64 0) (v3 := .bool false) (v4 := .int .i64 0) w)
  have HE := Lib.hid (hE.below ((Below.refl w.heap.size w).alloc (Nat.le_refl _) (.cells #[.int .i64 0, .string ⟨#[]⟩, .int .i64 0, .bool false, .int .i64 0] 71)))
  have HP := Lib.hid (show Lib.hasPrefix (s.extract a s.size).data.toList [45] = true by
    rw [show (s.extract a s.size).data.toList = s.data.toList.drop a by
      simp only [ByteArray.data_extract, Array.toList_extract, List.extract]
      rw [List.take_of_length_le (by simp)], drop_at ha, prefix45, h45])
  have HA := Lib.hid (show a ≤ s.size by omega)
  have HPC := Lib.hid (show ∀ w, Calls Tryz.prog 123 #[.string (s.extract a s.size), .string ⟨#[45]⟩] w fun e w' => e = .returned (.bool true) ∧ w' = w from fun w => by rw [← HP.out]; exact Tryz.strings_HasPrefix _ _ _)
  have ha2 : a ≤ s.size := HA.out
  have M0 := Lib.hid (show moreB sml s a = false by rw [moreB_at ha]; exact h1)
  have M1 := Lib.hid (show moreB bgI s a = false by rw [moreB_at ha]; exact h2)
  have M2 := Lib.hid (show moreB figI s a = false by rw [moreB_at ha]; exact h3)
  have hlt2 : decide ((a : Int) + 1 < (s.size : Int)) = true := decide_eq_true (by omega)
  have hlt3 : (a : Int) + 1 < (s.size : Int) := by omega
  have hwr : IntKind.i64.wrap ((a : Int) + 1) = (a : Int) + 1 := IntWalk.i64_in _ (by omega)
  have HF := Lib.hid (show figI ((s[a + 1]'hk2).toNat : Int) = false from h4)
  have HFC := Lib.hid (show ∀ w, Calls Tryz.prog 124 #[.int .u8 ((s[a + 1]'hk2).toNat : Int)] w fun e w' => e = .returned (.bool false) ∧ w' = w from fun w => (tfig_calls _ w).mono (by rintro e w' ⟨rfl, rfl⟩; exact ⟨by rw [HF.out], rfl⟩))
  have b39 := 0
  clear b39 hT hx hE h45 h1 h2 h3 h4
  go_enter Tryz.func93, Tryz.ntmps93
  go_wp2_with fail
  go_region_held3 (fun W => W.cell? ⟨X, 0, none⟩ = some (.string s) ∧ W.cell? ⟨X, 1, none⟩ = some (.int .i64 (a : Int)))
    ((go_split_ands; refine ⟨?_, ?_⟩; (focus (first | with_reducible assumption | (refine cell_below (w := w.alloc (.cells #[.int .i64 0, .string ⟨#[]⟩, .int .i64 0, .bool false, .int .i64 0] 71)) ?_ C0.out; (focus (repeat (first | with_reducible assumption | with_reducible exact Below.refl _ _ | with_reducible apply Below.drew)))))); (focus (first | with_reducible assumption | (refine cell_below (w := w.alloc (.cells #[.int .i64 0, .string ⟨#[]⟩, .int .i64 0, .bool false, .int .i64 0] 71)) ?_ C1.out; (focus (repeat (first | with_reducible assumption | with_reducible exact Below.refl _ _ | with_reducible apply Below.drew))))))))
    (first
      | (go_at_call 123; (with_reducible refine (HPC.out _).mono ?_); rintro e w' ⟨rfl, hw⟩; rw [hw]; clear hw)
      | (go_at_call 124; (with_reducible refine (HFC.out _).mono ?_); rintro e w' ⟨rfl, hw⟩; rw [hw]; clear hw))
  generalize hW1 : World.drew _ = W1
  have HX1 := Lib.hid (show IsText X s a W1 by rw [← hW1]; exact HX.out)
  have HK1 := Lib.hid (show IsTok w.heap.size (.int .i64 0) (.string ⟨#[]⟩) (.int .i64 0) (.bool false) (.int .i64 0) W1 by rw [← hW1]; exact HK.out)
  have HE1 := Lib.hid (show ErrW W1 by rw [← hW1]; exact HE.out)
  have HG1 := Lib.hid (show w.grownBy W1 (some X) by rw [← hW1]; exact grown_trans (World.grownBy_alloc w (.cells #[.int .i64 0, .string ⟨#[]⟩, .int .i64 0, .bool false, .int .i64 0] 71) _) (grown_below (Below.refl _ _).drew _))
  have c0 := HX1.out.cell0
  have c1 := HX1.out.cell1
  clear hW1 x0 x1
  go_wp2_with (first
    | (go_at_call 118; (with_reducible refine (more_calls en_small tsmall_calls X s a _ ?_).mono ?_); (focus (exact HX1.out)); rintro e w' ⟨rfl, rfl⟩; rw [M0.out])
    | (go_at_call 118; (with_reducible refine (more_calls en_big tbig_calls X s a _ ?_).mono ?_); (focus (exact HX1.out)); rintro e w' ⟨rfl, rfl⟩; rw [M1.out])
    | (go_at_call 118; (with_reducible refine (more_calls en_fig tfig_calls X s a _ ?_).mono ?_); (focus (exact HX1.out)); rintro e w' ⟨rfl, rfl⟩; rw [M2.out]))
  go_region
  go_wp2_with (first
    | (go_at_call 125; (with_reducible refine (mark_calls X s a _ ?_ ha hs).mono ?_); (focus (exact HX1.out)); rintro e w2 ho; obtain ⟨k, t, n, q, er, rfl, hg2, hv⟩ := ho.cells; have hk2 := HK1.out.grown (row := some X) (grown_trans (grown_drew (grown_drew (grown_drew (grown_drew (World.grownBy.refl _ (some X)))))) hg2) (by have := HLT.out; simp; omega); have k0 := hk2.c0; have k1 := hk2.c1; have k2 := hk2.c2; have k3 := hk2.c3; have k4 := hk2.c4; have l0 := hk2.fr 0; have l1 := hk2.fr 1; have l2 := hk2.fr 2; have l3 := hk2.fr 3; have l4 := hk2.fr 4; have HK2 := Lib.hid hk2; have HG2 := Lib.hid hg2; have HV := Lib.hid hv; clear hk2 hg2 hv ho))
  have hset := HK2.out.set (.int .i64 k) (.string t) (.int .i64 n) (.bool q) (.int .i64 0)
  have r0 := hset.c0; have r1 := hset.c1; have r2 := hset.c2; have r3 := hset.c3; have r4 := hset.c4
  refine bodyPost_ret (v := .tuple #[.agg #[.int .i64 k, .string t, .int .i64 n, .bool q, .int .i64 0], .int .i64 er]) (by simp [results, Tryz.results93, go_sem, r0, r1, r2, r3, r4]) rfl ?_
  exact HV.out.back (fun b hb => hb.tokSet (by have := HLT.out; omega) _ _ _ _ _) (grown_tokSet (grown_trans HG1.out (grown_trans (grown_drew (grown_drew (grown_drew (grown_drew (World.grownBy.refl _ (some X)))))) HG2.out)) (Nat.le_refl _) _ _ _ _ _)

set_option maxRecDepth 100000 in
set_option maxHeartbeats 4000000 in
theorem one_last (X : Nat) (s : ByteArray) (a : Nat) (w : World) (hT : IsText X s a w) (ha : a < s.size) (hs : s.size ≤ 65536) (hE : ErrW w) (h45 : (s[a] == 45) = true) (hk2 : ¬ a + 1 < s.size) (h1 : ofB sml s[a] = false) (h2 : ofB bgI s[a] = false) (h3 : ofB figI s[a] = false) (h39 : (((s[a]'ha).toNat : Int) == 39) = false) :
    Calls Tryz.prog 93 #[.pointer (some ⟨X, 0, none⟩)] w (OneIs X s (markL (s.data.toList.drop a)) w) := by
  have hx := hT.grown (World.grownBy_alloc w (.cells #[.int .i64 0, .string ⟨#[]⟩, .int .i64 0, .bool false, .int .i64 0] 71) none) (by simp)
  have x0 := hx.cell0
  have x1 := hx.cell1
  have HX := Lib.hid hx
  have C0 := Lib.hid x0
  have C1 := Lib.hid x1
  have HLT := Lib.hid hT.lt
  have HK := Lib.hid (IsTok.new (v0 := .int .i64 0) (v1 := .string ⟨#[]⟩) (v2 := .int .i64 0) (v3 := .bool false) (v4 := .int .i64 0) w)
  have HE := Lib.hid (hE.below ((Below.refl w.heap.size w).alloc (Nat.le_refl _) (.cells #[.int .i64 0, .string ⟨#[]⟩, .int .i64 0, .bool false, .int .i64 0] 71)))
  have HP := Lib.hid (show Lib.hasPrefix (s.extract a s.size).data.toList [45] = true by
    rw [show (s.extract a s.size).data.toList = s.data.toList.drop a by
      simp only [ByteArray.data_extract, Array.toList_extract, List.extract]
      rw [List.take_of_length_le (by simp)], drop_at ha, prefix45, h45])
  have HA := Lib.hid (show a ≤ s.size by omega)
  have HPC := Lib.hid (show ∀ w, Calls Tryz.prog 123 #[.string (s.extract a s.size), .string ⟨#[45]⟩] w fun e w' => e = .returned (.bool true) ∧ w' = w from fun w => by rw [← HP.out]; exact Tryz.strings_HasPrefix _ _ _)
  have ha2 : a ≤ s.size := HA.out
  have M0 := Lib.hid (show moreB sml s a = false by rw [moreB_at ha]; exact h1)
  have M1 := Lib.hid (show moreB bgI s a = false by rw [moreB_at ha]; exact h2)
  have M2 := Lib.hid (show moreB figI s a = false by rw [moreB_at ha]; exact h3)
  have hlt2 : decide ((a : Int) + 1 < (s.size : Int)) = false := decide_eq_false (by omega)
  have b39 := 0
  clear b39 hT hx hE h45 h1 h2 h3
  go_enter Tryz.func93, Tryz.ntmps93
  go_wp2_with fail
  go_quiet (first | (go_at_call 123; refine Calls.quiet_of_same (HPC.out _)))
  generalize hW1 : World.drewN _ _ = W1
  have HX1 := Lib.hid (show IsText X s a W1 by rw [← hW1]; exact HX.out)
  have HK1 := Lib.hid (show IsTok w.heap.size (.int .i64 0) (.string ⟨#[]⟩) (.int .i64 0) (.bool false) (.int .i64 0) W1 by rw [← hW1]; exact HK.out)
  have HE1 := Lib.hid (show ErrW W1 by rw [← hW1]; exact HE.out)
  have HG1 := Lib.hid (show w.grownBy W1 (some X) by rw [← hW1]; exact grown_trans (World.grownBy_alloc w (.cells #[.int .i64 0, .string ⟨#[]⟩, .int .i64 0, .bool false, .int .i64 0] 71) _) (grown_below (below_drewN' (Below.refl _ _) _) _))
  have c0 := HX1.out.cell0
  have c1 := HX1.out.cell1
  clear hW1 x0 x1
  go_wp2_with (first
    | (go_at_call 118; (with_reducible refine (more_calls en_small tsmall_calls X s a _ ?_).mono ?_); (focus (exact HX1.out)); rintro e w' ⟨rfl, rfl⟩; rw [M0.out])
    | (go_at_call 118; (with_reducible refine (more_calls en_big tbig_calls X s a _ ?_).mono ?_); (focus (exact HX1.out)); rintro e w' ⟨rfl, rfl⟩; rw [M1.out])
    | (go_at_call 118; (with_reducible refine (more_calls en_fig tfig_calls X s a _ ?_).mono ?_); (focus (exact HX1.out)); rintro e w' ⟨rfl, rfl⟩; rw [M2.out]))
  go_region
  go_wp2_with (first
    | (go_at_call 125; (with_reducible refine (mark_calls X s a _ ?_ ha hs).mono ?_); (focus (exact HX1.out)); rintro e w2 ho; obtain ⟨k, t, n, q, er, rfl, hg2, hv⟩ := ho.cells; have hk2 := HK1.out.grown (row := some X) (grown_trans (grown_drew (grown_drew (grown_drew (grown_drew (World.grownBy.refl _ (some X)))))) hg2) (by have := HLT.out; simp; omega); have k0 := hk2.c0; have k1 := hk2.c1; have k2 := hk2.c2; have k3 := hk2.c3; have k4 := hk2.c4; have l0 := hk2.fr 0; have l1 := hk2.fr 1; have l2 := hk2.fr 2; have l3 := hk2.fr 3; have l4 := hk2.fr 4; have HK2 := Lib.hid hk2; have HG2 := Lib.hid hg2; have HV := Lib.hid hv; clear hk2 hg2 hv ho))
  have hset := HK2.out.set (.int .i64 k) (.string t) (.int .i64 n) (.bool q) (.int .i64 0)
  have r0 := hset.c0; have r1 := hset.c1; have r2 := hset.c2; have r3 := hset.c3; have r4 := hset.c4
  refine bodyPost_ret (v := .tuple #[.agg #[.int .i64 k, .string t, .int .i64 n, .bool q, .int .i64 0], .int .i64 er]) (by simp [results, Tryz.results93, go_sem, r0, r1, r2, r3, r4]) rfl ?_
  exact HV.out.back (fun b hb => hb.tokSet (by have := HLT.out; omega) _ _ _ _ _) (grown_tokSet (grown_trans HG1.out (grown_trans (grown_drew (grown_drew (grown_drew (grown_drew (World.grownBy.refl _ (some X)))))) HG2.out)) (Nat.le_refl _) _ _ _ _ _)

theorem one_calls (X : Nat) (s : ByteArray) (a : Nat) (w : World) (hT : IsText X s a w) (ha : a < s.size) (hs : s.size ≤ 65536) (hE : ErrW w) :
    Calls Tryz.prog 93 #[.pointer (some ⟨X, 0, none⟩)] w (OneIs X s (oneL s[a] (s.data.toList.drop (a + 1))) w) := by
  unfold oneL
  rw [← drop_at ha]
  have hdash : (s[a] == 45) = true → ofB sml s[a] = false ∧ ofB bgI s[a] = false ∧ ofB figI s[a] = false ∧ (((s[a]'ha).toNat : Int) == 39) = false ∧ (s[a] == 39) = false := by
    intro h
    have h2 : s[a] = 45 := by simpa using h
    rw [h2]
    decide
  cases h45 : (s[a] == 45) with
  | true =>
    obtain ⟨h1, h2, h3, h39, h39'⟩ := hdash h45
    rw [h1, h2, h3, h39']
    by_cases hk2 : a + 1 < s.size
    · have hd : s.data.toList.drop (a + 1) = s[a + 1] :: s.data.toList.drop (a + 1 + 1) := drop_at hk2
      cases h4 : ofB figI s[a + 1] with
      | true =>
        have e : (true && !(s.data.toList.drop (a + 1)).isEmpty && ofB figI ((s.data.toList.drop (a + 1)).headD 0)) = true := by rw [hd]; simpa using h4
        rw [e]
        exact one_neg X s a w hT ha hs hE h45 hk2 h4 h1 h2 h3
      | false =>
        have e : (true && !(s.data.toList.drop (a + 1)).isEmpty && ofB figI ((s.data.toList.drop (a + 1)).headD 0)) = false := by rw [hd]; simpa using h4
        rw [e]
        exact one_dash X s a w hT ha hs hE h45 hk2 h4 h1 h2 h3 h39
    · have hd : s.data.toList.drop (a + 1) = [] := drop_end (by omega)
      have e : (true && !(s.data.toList.drop (a + 1)).isEmpty && ofB figI ((s.data.toList.drop (a + 1)).headD 0)) = false := by rw [hd]; rfl
      rw [e]
      exact one_last X s a w hT ha hs hE h45 hk2 h1 h2 h3 h39
  | false =>
    rw [Bool.false_and, Bool.false_and, Bool.or_false]
    cases h1 : ofB sml s[a] with
    | true => exact one_small X s a w hT ha hs hE h45 h1
    | false =>
      cases h2 : ofB bgI s[a] with
      | true => exact one_big X s a w hT ha hs hE h45 h1 h2
      | false =>
        cases h3 : ofB figI s[a] with
        | true => exact one_fig X s a w hT ha hs hE h45 h1 h2 h3
        | false =>
          cases h39 : (((s[a]'ha).toNat : Int) == 39) with
          | true =>
            have h39' : (s[a] == 39) = true := by rw [byteN (d := 39) h39 (by decide)]; rfl
            rw [h39']
            exact one_quot X s a w hT ha hs hE h45 h1 h2 h3 h39
          | false =>
            have h39' : (s[a] == 39) = false := byteNot (d := 39) h39 (by decide)
            rw [h39']
            exact one_mark X s a w hT ha hs hE h45 h1 h2 h3 h39
end Go.Proofs.YtminbdcabacfbaaGreatDoor.V

namespace Go.Proofs.YtminbdcabacfbaaGreatDoor.V
set_option linter.unusedVariables false
set_option linter.unusedSimpArgs false
open Go.RowKit

/-- Tokens as they lie in cells. -/
def tokC (p : TP') : List Value := [.int .i64 (p.1.k : Int), .string ⟨p.1.s.toArray⟩, .int .i64 p.1.n, .bool p.1.q, .int .i64 (p.2 : Int)]
def tokCells (l : List TP') : List Value := l.flatMap tokC
theorem tokCells_snoc (l : List TP') (p : TP') : tokCells (l ++ [p]) = tokCells l ++ tokC p := by simp [tokCells]
theorem tok_info : (Tryz.prog.info? 71).map (fun i => (i.zero, i.size, i.bytes)) = some (some (.agg #[.int .i64 0, .string ⟨#[]⟩, .int .i64 0, .bool false, .int .i64 0]), 5, 48) := by kernel_rfl
theorem oneL_bad {c : UInt8} {t : List UInt8} {e : Nat} (h : oneL c t = .bad e) : e = 2 ∨ e = 3 ∨ e = 4 := by
  unfold oneL at h
  repeat' split at h
  all_goals first
    | (unfold namedL at h; split at h <;> simp at h <;> omega)
    | (unfold numL at h; split at h <;> simp at h <;> omega)
    | (unfold markL at h; repeat' split at h; all_goals (simp at h; try omega))
    | (cases hq : quotL t <;> rw [hq] at h <;> simp [qres] at h <;> omega)

theorem skip_idem (l : List UInt8) : ∀ m, skipR false (skipR m l) = skipR m l := by
  induction l with
  | nil => intro m; simp [skipR]
  | cons c t ih =>
    intro m
    rw [skipR]
    split
    · rename_i h
      unfold skipR
      rw [if_pos]
      simp_all
    · exact ih _
theorem app_nil (s : Scan) : Scan.app [] s = s := by cases s <;> rfl
theorem grown_strip {w w' : World} {o : Obj} (h : (w.alloc o).grownBy w' (some w.heap.size)) : w.grownBy w' none :=
  ⟨h.os, h.tape, h.output, Nat.le_trans (by simp) h.size, fun k hk _ => (h.block k (by simp; omega) (by simp; omega)).trans (Below.heap_alloc _ _ _ hk)⟩
theorem below_of_grown {w w' : World} (h : w.grownBy w' none) : Below w.heap.size w w' := ⟨h.os, h.tape, h.output, h.size, fun k hk => h.block k hk (by simp)⟩
theorem o_base {W : World} {B B' e z n : Nat} {v : Value} {xs : List Value} (h : W.ownsRow B e z v n xs) (hB : B' ≤ B) : W.ownsRow B' e z v n xs := by
  refine ⟨h.1, ?_⟩
  rcases h.2 with hn | ⟨g, cap, cur, hv, hb, rest⟩
  · exact .inl hn
  · exact .inr ⟨g, cap, cur, hv, by omega, rest⟩

/-- What Scan hands back. -/
def ScanIs (s : ByteArray) (w : World) (e : Ending) (w' : World) : Prop :=
  Below w.heap.size w w' ∧ match scanL s.data.toList with
    | .bad a n => e = .returned (.tuple #[.slice none 0 0, .int .i64 (a : Int), .int .i64 (n : Int)])
    | .ok l => ∃ v, e = .returned (.tuple #[v, .int .i64 0, .int .i64 0]) ∧ w'.ownsRow w.heap.size 71 5 v l.length (tokCells l) ∧ (l = [] → v = .slice none 0 0) ∧ l.length ≤ 65536

/-- What Scan keeps, round by round. -/
structure ScanW (s : ByteArray) (k : Nat) (w W : World) (v : Value) (done : List TP') : Prop where
  hx : IsText w.heap.size s k W
  hk : k ≤ s.size
  hs : skipR false (s.data.toList.drop k) = s.data.toList.drop k
  ho : W.ownsRow (w.heap.size + 1) 71 5 v done.length (tokCells done)
  hz : done = [] → v = .slice none 0 0
  hn : done.length ≤ k
  hg : w.grownBy W none
  he : ErrW W
  hq : scanT s.size s.data.toList = (scanT s.size (s.data.toList.drop k)).app done

set_option maxRecDepth 100000 in
set_option maxHeartbeats 8000000 in
theorem scan_calls (s : ByteArray) (w : World) (hs : s.size ≤ 9223372036854775807) (hE : ErrW w) :
    Calls Tryz.prog 58 #[.string s] w (ScanIs s w) := by
  have hls : s.data.toList.length = s.size := by simp
  by_cases hbig : 65536 < s.size
  · have hd : decide (65536 < (s.size : Int)) = true := decide_eq_true (by omega)
    have HQ := Lib.hid (show scanL s.data.toList = .bad 0 4 from if_pos (by omega))
    clear hls hbig
    go_enter Tryz.func58, Tryz.ntmps58
    go_wp2_with fail
    refine bodyPost_ret (v := .tuple #[.slice none 0 0, .int .i64 0, .int .i64 4]) (by simp [results, Tryz.results58, go_sem]) rfl ⟨Below.refl _ _, ?_⟩
    rw [HQ.out]
    rfl
  · have hd : decide (65536 < (s.size : Int)) = false := decide_eq_false (by omega)
    have hs2 : s.size ≤ 65536 := by omega
    have HSL := Lib.hid (show scanL s.data.toList = scanT s.size s.data.toList by
      unfold scanL scanT
      rw [if_neg (by omega), hls])
    have HX := Lib.hid (show IsText w.heap.size s 0 (w.alloc (.cells #[.string s, .int .i64 0] 137)) from heap_alloc_new w _)
    have HE := Lib.hid (hE.below ((Below.refl w.heap.size w).alloc (Nat.le_refl _) (.cells #[.string s, .int .i64 0] 137)))
    have HE0 := Lib.hid hE
    clear hls hE hbig
    go_enter Tryz.func58, Tryz.ntmps58
    go_wp2_with (go_at_call 92; ((with_reducible refine (skip_calls _ s 0 _ HX.out (Nat.zero_le _) hs2).mono ?_); rintro e w1 ⟨rfl, b, _, hb, hsk, ht1, hg1⟩; have HSK := Lib.hid hsk; have HB := Lib.hid hb; have HT1 := Lib.hid ht1; have HG1 := Lib.hid hg1; clear hsk hb ht1 hg1))
    have hb := HB.out
    go_loopw [5] (fun v wr => ∃ k done, ScanW s k w wr v done) (fun _ wr => s.size - textAt w.heap.size wr)
    case atStart =>
      refine ⟨b, [], ⟨HT1.out, HB.out, ?_, World.ownsRow_nil _ _ _ _, fun _ => rfl, Nat.zero_le _, ?_, HE.out.grown HX.out HG1.out, ?_⟩⟩
      · rw [HSK.out, skip_idem]
      · exact grown_strip HG1.out
      · rw [HSK.out, List.drop_zero, scanT_skip, app_nil]
    case round =>
      obtain ⟨k, done, hW⟩ := hrel
      obtain ⟨A, c, rfl⟩ := o_slice hW.ho
      have HW := Lib.hid hW
      have c0 := hW.hx.cell0
      have c1 := hW.hx.cell1
      clear hW hb
      by_cases hkl : k < s.size
      · have hdk : decide ((k : Int) < (s.size : Int)) = true := decide_eq_true (by omega)
        have hstay := HW.out.hs
        rw [drop_at hkl] at hstay
        cases ho : oneL s[k] (s.data.toList.drop (k + 1)) with
        | bad m =>
          have HO := Lib.hid ho
          have hm : ((m : Int) == 0) = false := by
            have := oneL_bad ho
            simp
            omega
          have HF := Lib.hid (show scanL s.data.toList = .bad k m by
            rw [HSL.out, HW.out.hq, scanT_bad _ _ s[k] (s.data.toList.drop (k + 1)) m (by rw [drop_at hkl]; exact hstay) ho]
            simp [Scan.app]
            omega)
          clear hstay ho
          go_wp2_with (go_at_call 93; ((with_reducible refine (one_calls _ s k _ HW.out.hx hkl hs2 HW.out.he).mono ?_); rintro e w2 ho2; rw [HO.out] at ho2; obtain ⟨kk, tt, nn, qq, er, rfl, hg2, hv⟩ := ho2.cells; obtain ⟨rfl, rfl, rfl, rfl, rfl, _⟩ := hv; have HG2 := Lib.hid hg2; clear hg2 ho2))
          refine bodyPost_ret (v := .tuple #[.slice none 0 0, .int .i64 (k : Int), .int .i64 (m : Int)]) (by simp [results, Tryz.results58, go_sem]) rfl ⟨below_of_grown (grown_trans (o_grown HW.out.hg HG2.out (fun j hj => by cases hj; exact Nat.le_refl _)) (World.grownBy_alloc _ _ _)), ?_⟩
          rw [HF.out]
        | tok u r =>
          have HO := Lib.hid ho
          have HF := Lib.hid (show scanT s.size s.data.toList = (scanT s.size r).app (done ++ [(u, k)]) by
            rw [HW.out.hq, scanT_tok _ _ s[k] (s.data.toList.drop (k + 1)) u r (by rw [drop_at hkl]; exact hstay) ho, app_cons]
            have e : s.size - (s[k] :: s.data.toList.drop (k + 1)).length = k := by simp; omega
            rw [e])
          have HLEN := Lib.hid (show r.length < s.size - k by
            have := oneL_lt _ _ _ _ ho
            simp at this
            omega)
          clear hstay ho
          go_wp2_with (first
            | (go_at_call 93; ((with_reducible refine (one_calls _ s k _ HW.out.hx hkl hs2 HW.out.he).mono ?_); rintro e w2 ho2; rw [HO.out] at ho2; obtain ⟨kk, tt, nn, qq, er, rfl, hg2, hv⟩ := ho2.cells; obtain ⟨rfl, rfl, rfl, rfl, rfl, b2, hb2, hr2, ht2⟩ := hv; have HG2 := Lib.hid hg2; have HB2 := Lib.hid hb2; have HR2 := Lib.hid hr2; have HT2 := Lib.hid ht2; clear hg2 ho2 hb2 hr2 ht2))
            | (at_builtin; refine RowKit.Hid.out ?_))
          refine Lib.hid ?_
          have hXne : some w.heap.size ≠ Value.ownBlock (.slice A done.length c) := fun e => by have := o_from HW.out.ho _ e.symm; omega
          have HGA := Lib.hid (grown_trans HG2.out (World.grownBy_alloc w2 (.cells #[.int .i64 (u.k : Int), .string ⟨u.s.toArray⟩, .int .i64 u.n, .bool u.q, .int .i64 (k : Int)] 71) (some w.heap.size)))
          refine o_app (W := w2.alloc (.cells #[.int .i64 (u.k : Int), .string ⟨u.s.toArray⟩, .int .i64 u.n, .bool u.q, .int .i64 (k : Int)] 71)) rfl (.tmp 42) (.tmp 44) 64 71 rfl (.agg #[.int .i64 0, .string ⟨#[]⟩, .int .i64 0, .bool false, .int .i64 0]) 5 48 Tryz.underlying64 tok_info rfl (by decide) (by decide) #[.int .i64 (u.k : Int), .string ⟨u.s.toArray⟩, .int .i64 u.n, .bool u.q, .int .i64 (k : Int)] rfl (by intro v hv; simp at hv; rcases hv with rfl | rfl | rfl | rfl | rfl <;> rfl) (.slice A done.length c) done.length (tokCells done) (by rfl) (o_keep HW.out.ho HGA.out (by omega)) (by simp; rfl) (by have := HW.out.hn; have := HW.out.hk; omega) (by have := HGA.out.size; have := HW.out.hx.lt; omega) ?_
          intro A2 c2 W3 ho3 hg3
          have HG3 := Lib.hid hg3
          have HO3 := Lib.hid (show W3.ownsRow (w.heap.size + 1) 71 5 (.slice A2 (done.length + 1) c2) (done.length + 1) (tokCells (done ++ [(u, k)])) by rw [tokCells_snoc]; exact ho3)
          have HT3 := Lib.hid ((HT2.out.grown (World.grownBy_alloc w2 (.cells #[.int .i64 (u.k : Int), .string ⟨u.s.toArray⟩, .int .i64 u.n, .bool u.q, .int .i64 (k : Int)] 71) none) (by simp)).grown hg3 hXne)
          have HGW := Lib.hid (o_grown (o_grown HW.out.hg HGA.out (fun j hj => by cases hj; exact Nat.le_refl _)) hg3 (fun j hj => by have := o_from HW.out.ho _ hj; omega))
          have HBK := Lib.hid (show k < b2 by
            have h1 := HLEN.out
            have h2 := congrArg List.length HR2.out
            simp at h2
            omega)
          clear ho3 hg3
          go_wp2_with (go_at_call 92; ((with_reducible refine (skip_calls _ s b2 _ HT3.out HB2.out hs2).mono ?_); rintro e w4 ⟨rfl, b4, hb24, hb4, hsk, ht4, hg4⟩; have HSK := Lib.hid hsk; have HB4 := Lib.hid hb4; have HB24 := Lib.hid hb24; have HT4 := Lib.hid ht4; have HG4 := Lib.hid hg4; clear hsk hb4 hb24 ht4 hg4))
          go_roundw
          case rel =>
            refine ⟨b4, done ++ [(u, k)], ⟨HT4.out, HB4.out, by rw [HSK.out, skip_idem], ?_, fun e => by simp at e, ?_, ?_, HE0.out.below (below_of_grown (o_grown HGW.out HG4.out (fun j hj => by cases hj; exact Nat.le_refl _))), ?_⟩⟩
            · rw [List.length_append, List.length_singleton]
              exact o_keep HO3.out HG4.out (by omega)
            · have h1 := HBK.out
              have h2 := HB24.out
              have h3 := HW.out.hn
              simp
              omega
            · exact o_grown HGW.out HG4.out (fun j hj => by cases hj; exact Nat.le_refl _)
            · rw [HF.out, HSK.out, scanT_skip, HR2.out]
          case measure =>
            have h1 := HBK.out
            have h2 := HB24.out
            rw [HT4.out.textAt, HW.out.hx.textAt]
            omega
      · have hdk : decide ((k : Int) < (s.size : Int)) = false := decide_eq_false (by omega)
        have HF := Lib.hid (show scanL s.data.toList = .ok done by
          rw [HSL.out, HW.out.hq, drop_end (by omega), scanT_nil _ _ rfl]
          simp [Scan.app])
        go_wp2_with fail
        refine bodyPost_ret (v := .tuple #[.slice A done.length c, .int .i64 0, .int .i64 0]) (by simp [results, Tryz.results58, go_sem]) rfl ⟨below_of_grown HW.out.hg, ?_⟩
        rw [HF.out]
        exact ⟨_, rfl, o_base HW.out.ho (Nat.le_succ _), HW.out.hz, by have := HW.out.hn; have := HW.out.hk; omega⟩
end Go.Proofs.YtminbdcabacfbaaGreatDoor.V

namespace Go.Proofs.YtminbdcabacfbaaGreatDoor.V
set_option linter.unusedVariables false
set_option linter.unusedSimpArgs false
open Go.RowKit

theorem addr_add (g j : Nat) : Addr.add ⟨g, 0, none⟩ j = ⟨g, j, none⟩ := by
  unfold Addr.add
  split <;> simp_all
theorem bs_append (a b : List UInt8) : bs a ++ bs b = bs (a ++ b) := by
  apply ByteArray.ext
  simp [bs, ByteArray.data_append]
theorem bs_size (l : List UInt8) : (bs l).size = l.length := List.size_toArray
end Go.Proofs.YtminbdcabacfbaaGreatDoor.V
