/- What bytes are: package token's small functions, each by a contract; its scanned text (*text): more, run. -/
import Derived.Test.YtdfjhhhbkgelaaaGreatDoorPlain
import Derived.Test.YtdfjhhhbkgelaaaGreatDoorTok
import Derived.WalkKit
import Derived.LoopTactic
import Derived.OneCell
import Derived.Shelf.Abstract
import Derived.WalkSmall
import Derived.Deep.RegionHeld3
namespace Go.Proofs.YtdfjhhhbkgelaaaGreatDoor.V
set_option linter.unusedVariables false
set_option linter.unusedSimpArgs false
open Go.RowKit

theorem tblank_calls (c : Int) (w : World) : Calls Tryz.prog 28 #[.int .u8 c] w fun e w' => e = .returned (.bool (blankI c)) ∧ w = w' := by
  unfold blankI
  cases h1 : (c == 9) <;> cases h2 : (c == 10) <;> cases h3 : (c == 13) <;> cases h4 : (c == 32) <;>
  · go_enter Tryz.func28, Tryz.ntmps28
    go_wp2
    go_ret
    exact ⟨by simp, rfl⟩
theorem tsmall_calls (c : Int) (w : World) : Calls Tryz.prog 34 #[.int .u8 c] w fun e w' => e = .returned (.bool (sml c)) ∧ w = w' := by
  unfold sml
  cases h1 : decide (97 ≤ c) <;> cases h2 : decide (c ≤ 122) <;>
  · go_enter Tryz.func34, Tryz.ntmps34
    go_wp2
    go_ret
    exact ⟨by simp, rfl⟩
theorem tbig_calls (c : Int) (w : World) : Calls Tryz.prog 36 #[.int .u8 c] w fun e w' => e = .returned (.bool (bgI c)) ∧ w = w' := by
  unfold bgI
  cases h1 : decide (65 ≤ c) <;> cases h2 : decide (c ≤ 90) <;>
  · go_enter Tryz.func36, Tryz.ntmps36
    go_wp2
    go_ret
    exact ⟨by simp, rfl⟩
theorem tfig_calls (c : Int) (w : World) : Calls Tryz.prog 32 #[.int .u8 c] w fun e w' => e = .returned (.bool (figI c)) ∧ w = w' := by
  unfold figI
  cases h1 : decide (48 ≤ c) <;> cases h2 : decide (c ≤ 57) <;>
  · go_enter Tryz.func32, Tryz.ntmps32
    go_wp2
    go_ret
    exact ⟨by simp, rfl⟩
theorem tword_calls (c : Int) (w : World) : Calls Tryz.prog 55 #[.int .u8 c] w fun e w' => e = .returned (.bool (wrdI c)) ∧ w = w' := by
  unfold wrdI
  cases h1 : sml c <;> cases h2 : bgI c <;> cases h3 : figI c <;> cases h4 : (c == 95) <;>
  · go_enter Tryz.func55, Tryz.ntmps55
    go_wp2_with (first
      | (go_at_call 34; with_reducible refine (tsmall_calls _ _).mono ?_; rintro e w' ⟨rfl, rfl⟩; rw [h1])
      | (go_at_call 36; with_reducible refine (tbig_calls _ _).mono ?_; rintro e w' ⟨rfl, rfl⟩; rw [h2])
      | (go_at_call 32; with_reducible refine (tfig_calls _ _).mono ?_; rintro e w' ⟨rfl, rfl⟩; rw [h3]))
    go_ret
    exact ⟨by simp, rfl⟩
theorem tgap_calls (c : Int) (w : World) : Calls Tryz.prog 27 #[.int .u8 c] w fun e w' => e = .returned (.bool (gapI c)) ∧ w = w' := by
  unfold gapI
  cases h1 : blankI c <;> cases h2 : (c == 37) <;>
  · go_enter Tryz.func27, Tryz.ntmps27
    go_wp2_with (go_at_call 28; with_reducible refine (tblank_calls _ _).mono ?_; rintro e w' ⟨rfl, rfl⟩; rw [h1])
    go_ret
    exact ⟨by simp, rfl⟩
theorem tline_calls (c : Int) (w : World) : Calls Tryz.prog 30 #[.int .u8 c] w fun e w' => e = .returned (.bool (lineI c)) ∧ w = w' := by
  unfold lineI
  cases h1 : (c == 10)
  all_goals
    go_enter Tryz.func30, Tryz.ntmps30
    go_wp2
    go_ret
    exact ⟨by simp_all, rfl⟩

/-- What is scanned, and where that stands. -/
def IsText (X : Nat) (s : ByteArray) (a : Nat) (w : World) : Prop := w.heap[X]? = some (.cells #[.string s, .int .i64 (a : Int)] 40 (0, 0))
theorem IsText.cell0 {X : Nat} {s : ByteArray} {a : Nat} {w : World} (h : IsText X s a w) : w.cell? ⟨X, 0, none⟩ = some (.string s) := cell_of_row w X 0 _ _ _ h
theorem IsText.cell1 {X : Nat} {s : ByteArray} {a : Nat} {w : World} (h : IsText X s a w) : w.cell? ⟨X, 1, none⟩ = some (.int .i64 (a : Int)) := cell_of_row w X 1 _ _ _ h
theorem IsText.free {X : Nat} {s : ByteArray} {a : Nat} {w : World} (h : IsText X s a w) (i : Nat) : w.frozen? ⟨X, i, none⟩ = false := by
  exact frozen_of_row w X i _ _ h
theorem IsText.lt {X : Nat} {s : ByteArray} {a : Nat} {w : World} (h : IsText X s a w) : X < w.heap.size := (Array.getElem?_eq_some_iff.1 h).1
theorem IsText.below {X B : Nat} {s : ByteArray} {a : Nat} {w w' : World} (h : IsText X s a w) (hb : Below B w w') (hX : X < B) : IsText X s a w' := (hb.block X hX).trans h
theorem IsText.drew {X : Nat} {s : ByteArray} {a : Nat} {w : World} (h : IsText X s a w) : IsText X s a w.drew := h
theorem IsText.set {X : Nat} {s : ByteArray} {a : Nat} {w : World} (h : IsText X s a w) (b : Nat) : IsText X s b (w.setCell ⟨X, 1, none⟩ (.int .i64 (b : Int))) := by
  have hl := h.lt
  unfold IsText at *
  simp only [World.setCell, Array.getElem?_modify, if_true]
  rw [h]
  rfl

/-- A block of a token's five cells. -/
def IsTok (T : Nat) (v0 v1 v2 v3 v4 : Value) (w : World) : Prop := w.heap[T]? = some (.cells #[v0, v1, v2, v3, v4] 35 (0, 0))
section
variable {T : Nat} {v0 v1 v2 v3 v4 : Value} {w : World}
theorem IsTok.c0 (h : IsTok T v0 v1 v2 v3 v4 w) : w.cell? ⟨T, 0, none⟩ = some v0 := cell_of_row w T 0 _ _ _ h
theorem IsTok.c1 (h : IsTok T v0 v1 v2 v3 v4 w) : w.cell? ⟨T, 1, none⟩ = some v1 := cell_of_row w T 1 _ _ _ h
theorem IsTok.c2 (h : IsTok T v0 v1 v2 v3 v4 w) : w.cell? ⟨T, 2, none⟩ = some v2 := cell_of_row w T 2 _ _ _ h
theorem IsTok.c3 (h : IsTok T v0 v1 v2 v3 v4 w) : w.cell? ⟨T, 3, none⟩ = some v3 := cell_of_row w T 3 _ _ _ h
theorem IsTok.c4 (h : IsTok T v0 v1 v2 v3 v4 w) : w.cell? ⟨T, 4, none⟩ = some v4 := cell_of_row w T 4 _ _ _ h
theorem IsTok.fr (h : IsTok T v0 v1 v2 v3 v4 w) (i : Nat) : w.frozen? ⟨T, i, none⟩ = false := frozen_of_row w T i _ _ h
theorem IsTok.new (w : World) : IsTok w.heap.size v0 v1 v2 v3 v4 (w.alloc (.cells #[v0, v1, v2, v3, v4] 35)) := heap_alloc_new w _
theorem IsTok.grown {w' : World} {row : Option Nat} (h : IsTok T v0 v1 v2 v3 v4 w) (hg : w.grownBy w' row) (hne : some T ≠ row) : IsTok T v0 v1 v2 v3 v4 w' := (hg.block T (Array.getElem?_eq_some_iff.1 h).1 hne).trans h
end

/-- A token is stored. -/
abbrev tokSet (T : Nat) (u0 u1 u2 u3 u4 : Value) (w : World) : World :=
  ((((w.setCell ⟨T, 0, none⟩ u0).setCell ⟨T, 1, none⟩ u1).setCell ⟨T, 2, none⟩ u2).setCell ⟨T, 3, none⟩ u3).setCell ⟨T, 4, none⟩ u4
theorem set_block {w : World} {b i : Nat} {cs : Array Value} {t : TypeId} (h : w.heap[b]? = some (.cells cs t (0, 0))) (u : Value) : (w.setCell ⟨b, i, none⟩ u).heap[b]? = some (.cells (cs.setIfInBounds i u) t (0, 0)) := by
  simp only [World.setCell, Array.getElem?_modify, if_true]
  rw [h]
  rfl
theorem IsTok.set {T : Nat} {v0 v1 v2 v3 v4 : Value} {w : World} (h : IsTok T v0 v1 v2 v3 v4 w) (u0 u1 u2 u3 u4 : Value) : IsTok T u0 u1 u2 u3 u4 (tokSet T u0 u1 u2 u3 u4 w) :=
  set_block (set_block (set_block (set_block (set_block h u0) u1) u2) u3) u4
theorem grown_setNew {w w' : World} {row : Option Nat} {T : Nat} (h : w.grownBy w' row) (hT : w.heap.size ≤ T) (i : Nat) (v : Value) : w.grownBy (w'.setCell ⟨T, i, none⟩ v) row :=
  ⟨h.os, h.tape, h.output, by simpa [World.setCell] using h.size, fun k hk hne => (Below.heap_setCell _ _ _ _ (by show k ≠ T; omega)).trans (h.block k hk hne)⟩
theorem grown_tokSet {w w' : World} {row : Option Nat} {T : Nat} (h : w.grownBy w' row) (hT : w.heap.size ≤ T) (u0 u1 u2 u3 u4 : Value) : w.grownBy (tokSet T u0 u1 u2 u3 u4 w') row :=
  grown_setNew (grown_setNew (grown_setNew (grown_setNew (grown_setNew h hT _ _) hT _ _) hT _ _) hT _ _) hT _ _
theorem IsText.far {X T : Nat} {s : ByteArray} {a : Nat} {w : World} (h : IsText X s a w) (hne : X ≠ T) (i : Nat) (v : Value) : IsText X s a (w.setCell ⟨T, i, none⟩ v) := (Below.heap_setCell _ _ _ _ hne).trans h
theorem IsText.tokSet {X T : Nat} {s : ByteArray} {a : Nat} {w : World} (h : IsText X s a w) (hne : X ≠ T) (u0 u1 u2 u3 u4 : Value) : IsText X s a (V.tokSet T u0 u1 u2 u3 u4 w) :=
  ((((h.far hne _ _).far hne _ _).far hne _ _).far hne _ _).far hne _ _
/-- Where the scanned text stands. -/
def textAt (X : Nat) (w : World) : Nat := match w.cell? ⟨X, 1, none⟩ with
  | some v => (intOf v).toNat
  | none => 0
theorem IsText.textAt {X : Nat} {s : ByteArray} {a : Nat} {w : World} (h : IsText X s a w) : textAt X w = a := by
  unfold V.textAt
  rw [h.cell1]
  simp [intOf]
theorem IsText.grown {X : Nat} {s : ByteArray} {a : Nat} {w w' : World} {row : Option Nat} (h : IsText X s a w) (hg : w.grownBy w' row) (hne : some X ≠ row) : IsText X s a w' := (hg.block X h.lt hne).trans h
theorem grown_drew {w w' : World} {row : Option Nat} (h : w.grownBy w' row) : w.grownBy w'.drew row := ⟨h.os, h.tape, h.output, h.size, h.block⟩
theorem un_drew {w w' : World} {row : Option Nat} (h : w.drew.grownBy w' row) : w.grownBy w' row := ⟨h.os, h.tape, h.output, h.size, h.block⟩
theorem grown_set {w w' : World} {X : Nat} (h : w.grownBy w' (some X)) (i : Nat) (v : Value) : w.grownBy (w'.setCell ⟨X, i, none⟩ v) (some X) :=
  ⟨h.os, h.tape, h.output, by simpa [World.setCell] using h.size, fun k hk hne => (Below.heap_setCell _ _ _ _ (fun e => hne (by rw [e]))).trans (h.block k hk hne)⟩
theorem grown_trans {a b c : World} {row : Option Nat} (h : a.grownBy b row) (k : b.grownBy c row) : a.grownBy c row :=
  ⟨k.os.trans h.os, k.tape.trans h.tape, k.output.trans h.output, Nat.le_trans h.size k.size, fun i hi hne => (k.block i (Nat.lt_of_lt_of_le hi h.size) hne).trans (h.block i hi hne)⟩
theorem grown_below {w w' : World} (h : Below w.heap.size w w') (row : Option Nat) : w.grownBy w' row := ⟨h.os, h.tape, h.output, h.size, fun k hk _ => h.block k hk⟩

/-- Does it hold of the byte at a place? -/
def moreB (P : Int → Bool) (s : ByteArray) (a : Nat) : Bool := if h : a < s.size then ofB P (s[a]'h) else false

set_option maxRecDepth 100000 in
theorem more_calls {F : Nat} {P : Int → Bool} (eF : ∀ args w, (callFunc F args).run Tryz.prog w = .ok (.enter F args) w)
    (hF : ∀ (c : Int) (w : World), Calls Tryz.prog F #[.int .u8 c] w fun e w' => e = .returned (.bool (P c)) ∧ w = w')
    (X : Nat) (s : ByteArray) (a : Nat) (w : World) (hT : IsText X s a w) :
    Calls Tryz.prog 26 #[.pointer (some ⟨X, 0, none⟩), .func (.func F) #[] #[]] w fun e w' => e = .returned (.bool (moreB P s a)) ∧ w.drew = w' := by
  have c0 := hT.cell0
  have c1 := hT.cell1
  have C0 := Lib.hid c0
  have C1 := Lib.hid c1
  by_cases hlt : a < s.size
  · have hd : decide ((a : Int) < (s.size : Int)) = true := decide_eq_true (by omega)
    have HM := Lib.hid (show moreB P s a = P ((s[a]'hlt).toNat : Int) by unfold moreB; rw [dif_pos hlt]; rfl)
    go_enter Tryz.func26, Tryz.ntmps26
    go_wp2
    go_region_held3 (fun W => W.cell? ⟨X, 0, none⟩ = some (.string s) ∧ W.cell? ⟨X, 1, none⟩ = some (.int .i64 (a : Int)))
      ((go_split_ands; refine ⟨?_, ?_⟩; (focus (first | with_reducible assumption | (refine cell_below (w := w) ?_ C0.out; (focus (repeat (first | with_reducible assumption | with_reducible exact Below.refl _ _ | with_reducible apply Below.drew)))))); (focus (first | with_reducible assumption | (refine cell_below (w := w) ?_ C1.out; (focus (repeat (first | with_reducible assumption | with_reducible exact Below.refl _ _ | with_reducible apply Below.drew))))))))
      (first
        | (go_at_fn F; refine (hF _ _).mono ?_; rintro e w' ⟨rfl, rfl⟩))
    go_wp2
    go_ret
    exact ⟨by rw [HM.out]; rfl, rfl⟩
  · have hd : decide ((a : Int) < (s.size : Int)) = false := decide_eq_false (by omega)
    have HM := Lib.hid (show moreB P s a = false by unfold moreB; rw [dif_neg hlt])
    go_enter Tryz.func26, Tryz.ntmps26
    go_wp2
    go_region
    go_wp2
    go_ret
    exact ⟨by rw [HM.out]; rfl, rfl⟩

/-- Behind all bytes of which it holds. -/
def runB (P : Int → Bool) (s : ByteArray) (a : Nat) : Nat := a + ((s.data.toList.drop a).takeWhile (ofB P)).length
theorem drop_at {s : ByteArray} {a : Nat} (h : a < s.size) : s.data.toList.drop a = s[a] :: s.data.toList.drop (a + 1) := by
  rw [List.drop_eq_getElem_cons (by simpa using h)]
  simp [ByteArray.getElem_eq_getElem_data]
theorem drop_end {s : ByteArray} {a : Nat} (h : s.size ≤ a) : s.data.toList.drop a = [] := List.drop_eq_nil_of_le (by simpa using h)
theorem runB_more {P : Int → Bool} {s : ByteArray} {a : Nat} (h : moreB P s a = true) : a < s.size ∧ runB P s (a + 1) = runB P s a := by
  unfold moreB at h
  split at h
  · rename_i hlt
    refine ⟨hlt, ?_⟩
    unfold runB
    rw [drop_at hlt, List.takeWhile_cons_of_pos h]
    simp
    omega
  · cases h
theorem runB_stop {P : Int → Bool} {s : ByteArray} {a : Nat} (h : moreB P s a = false) : runB P s a = a := by
  unfold moreB at h
  split at h
  · rename_i hlt
    unfold runB
    rw [drop_at hlt, List.takeWhile_cons_of_neg (by simp [h])]
    rfl
  · rename_i hlt
    unfold runB
    rw [drop_end (by omega)]
    rfl
theorem runB_le {P : Int → Bool} {s : ByteArray} {a : Nat} (h : a ≤ s.size) : a ≤ runB P s a ∧ runB P s a ≤ s.size := by
  have h1 := (List.takeWhile_prefix (ofB P) (l := s.data.toList.drop a)).length_le
  have h2 : (s.data.toList.drop a).length = s.size - a := by simp
  unfold runB
  omega
theorem runB_drop (P : Int → Bool) (s : ByteArray) (a : Nat) : s.data.toList.drop (runB P s a) = (s.data.toList.drop a).dropWhile (ofB P) := by
  unfold runB
  rw [← List.drop_drop]
  generalize s.data.toList.drop a = l
  conv => lhs; rw [← List.takeWhile_append_dropWhile (p := ofB P) (l := l)]
  rw [List.drop_left']
  simp [List.takeWhile_append_dropWhile]
theorem runB_take (P : Int → Bool) (s : ByteArray) (a : Nat) : (s.extract a (runB P s a)).data.toList = (s.data.toList.drop a).takeWhile (ofB P) := by
  unfold runB
  simp only [ByteArray.data_extract, Array.toList_extract, List.extract]
  rw [show a + ((s.data.toList.drop a).takeWhile (ofB P)).length - a = ((s.data.toList.drop a).takeWhile (ofB P)).length by omega]
  generalize s.data.toList.drop a = l
  conv => lhs; rw [← List.takeWhile_append_dropWhile (p := ofB P) (l := l)]
  rw [List.take_left']
  simp [List.takeWhile_append_dropWhile]

set_option maxRecDepth 100000 in
theorem run_calls {F : Nat} {P : Int → Bool} (eF : ∀ args w, (callFunc F args).run Tryz.prog w = .ok (.enter F args) w)
    (hF : ∀ (c : Int) (w : World), Calls Tryz.prog F #[.int .u8 c] w fun e w' => e = .returned (.bool (P c)) ∧ w = w')
    (X : Nat) (s : ByteArray) (a : Nat) (w : World) (hT : IsText X s a w) (ha : a ≤ s.size) (hs : s.size ≤ 65536) :
    Calls Tryz.prog 29 #[.pointer (some ⟨X, 0, none⟩), .func (.func F) #[] #[]] w fun e w' =>
      e = .returned (.string (s.extract a (runB P s a))) ∧ IsText X s (runB P s a) w' ∧ w.grownBy w' (some X) := by
  have c1 := hT.cell1
  go_enter Tryz.func29, Tryz.ntmps29
  go_wp2_with fail
  clear c1
  go_loopw [] (fun wr => ∃ k : Nat, k ≤ s.size ∧ a ≤ k ∧ runB P s k = runB P s a ∧ IsText X s k wr ∧ w.grownBy wr (some X)) (fun wr => s.size - textAt X wr)
  case atStart => exact ⟨a, ha, Nat.le_refl _, rfl, hT, World.grownBy.refl _ _⟩
  case round =>
    obtain ⟨k, hk, hak, hr, ht, hg⟩ := hrel
    have HG := Lib.hid hg
    have HR := Lib.hid hr
    have HT := Lib.hid ht
    have c1 := ht.cell1
    have c0 := ht.cell0
    have C0 := Lib.hid c0
    have C1 := Lib.hid c1
    have f1 := ht.free 1
    clear hg hr ht hT
    cases hm : moreB P s k with
    | true =>
      have h1 := runB_more hm
      have hkl := h1.1
      have HH := Lib.hid h1.2
      clear h1
      have HM := Lib.hid hm
      clear hm
      go_wp2_with (go_at_call 26; refine (more_calls eF hF X s k _ HT.out).mono ?_; rintro e w' ⟨rfl, rfl⟩; rw [HM.out])
      go_roundw
      case rel => exact ⟨k + 1, hkl, by omega, by rw [HH.out, HR.out], HT.out.drew.set (k + 1), grown_set (grown_drew HG.out) _ _⟩
      case measure => exact Nat.lt_of_le_of_lt (Nat.le_of_eq (congrArg (s.size - ·) (HT.out.set (k + 1)).drew.textAt)) (by rw [HT.out.textAt]; omega)
    | false =>
      have HE := Lib.hid (runB_stop hm)
      have HM := Lib.hid hm
      clear hm
      go_wp2_with (go_at_call 26; refine (more_calls eF hF X s k _ HT.out).mono ?_; rintro e w' ⟨rfl, rfl⟩; rw [HM.out])
      go_region
      go_wp2
      go_ret
      exact ⟨by rw [← HR.out, HE.out]; rfl, by rw [← HR.out, HE.out]; exact HT.out.drew, grown_drew (grown_drew HG.out)⟩
end Go.Proofs.YtdfjhhhbkgelaaaGreatDoor.V
