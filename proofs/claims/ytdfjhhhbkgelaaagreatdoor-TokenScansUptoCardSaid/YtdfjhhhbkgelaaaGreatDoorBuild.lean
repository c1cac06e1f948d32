/- (*strings.Replacer).build at the three pairs that value.Text replaces. -/
import Derived.Test.YtdfjhhhbkgelaaaGreatDoorSync
import Derived.Test.YtdfjhhhbkgelaaaGreatDoorBase
import Derived.WalkLawsBesides
import Derived.WalkSpells
import Derived.Below
import Derived.Lib.Hide
import Derived.Outline
import Derived.LoopTactic
import Derived.LoopN
import Derived.Deep.WholeRow
import Derived.Lib.SlBytesRow
import Derived.Laws.IdiomStrings
import Derived.Maps.AppendAt
import Derived.Laws.OwnMore
namespace Go.Proofs.YtdfjhhhbkgelaaaGreatDoor.V
set_option linter.unusedVariables false
open Go.RowKit
set_option linter.unusedSimpArgs false

def slash1 : ByteArray := ⟨#[92]⟩
def slash2 : ByteArray := ⟨#[92, 92]⟩
def tick1 : ByteArray := ⟨#[39]⟩
def tick2 : ByteArray := ⟨#[92, 39]⟩
def line1 : ByteArray := ⟨#[10]⟩
def line2 : ByteArray := ⟨#[92, 110]⟩

/-- The block of a byteStringReplacer, its table empty. -/
noncomputable def rep0 (x : Value) : Array Value := (Tryz.zeroCells137.toList.set 256 x).toArray
theorem rep0_size (x : Value) : (rep0 x).size = 257 := by
  unfold rep0
  rw [List.size_toArray, List.length_set]
  kernel_rfl
theorem zeros_list : Tryz.zeroCells137.toList = List.replicate 256 (Value.slice none 0 0) ++ [Value.slice none 0 0] := by kernel_rfl
theorem rep0_all (x : Value) (hx : x.oneCell' = true) : (rep0 x).all (·.oneCell') = true := by
  rw [Array.all_eq_true']
  intro v hv
  unfold rep0 at hv
  have hv' : v ∈ Tryz.zeroCells137.toList.set 256 x := List.mem_toArray.1 hv
  rcases List.mem_or_eq_of_mem_set hv' with h | rfl
  · rw [zeros_list] at h
    rcases List.mem_append.1 h with h | h
    · rw [List.eq_of_mem_replicate h]; rfl
    · rw [List.mem_singleton.1 h]; rfl
  · exact hx
theorem rep0_at (x : Value) (i : Nat) (hi : i < 256) : (rep0 x)[i]? = some (.slice none 0 0) := by
  unfold rep0
  rw [List.getElem?_toArray, List.getElem?_set_ne (by omega), zeros_list, List.getElem?_append_left (by rw [List.length_replicate]; exact hi), List.getElem?_replicate, if_pos hi]
theorem rep0_last (x : Value) : (rep0 x)[256]? = some x := by
  unfold rep0
  rw [List.getElem?_toArray, List.getElem?_set_self]
  rw [zeros_list, List.length_append, List.length_replicate]
  decide
theorem store_rep (W : World) (o : Obj) (x : Value) (hx : x.oneCell' = true) : (storeCells ⟨W.heap.size + 1, 0, none⟩ (Tryz.zeroCells137.toList.set 256 x)).run Tryz.prog ((W.alloc o).alloc (.cells Tryz.zeroCells137 137)) = .ok () ((W.alloc o).alloc (.cells (rep0 x) 137)) := by
  have h := run_storeCells_new (P := Tryz.prog) (W.alloc o) 137 Tryz.zeroCells137 (rep0 x) (by rw [rep0_size]; kernel_rfl) (by rw [rep0_size]; kernel_rfl) (rep0_all x hx)
  rw [World.size_alloc] at h
  have e : (rep0 x).toList = Tryz.zeroCells137.toList.set 256 x := by simp [rep0]
  rw [e] at h
  exact h

theorem two_first' (w : World) (o p : Obj) : ((w.alloc o).alloc p).heap[w.heap.size]? = some o := (Below.heap_alloc (w.alloc o) p w.heap.size (by simp)).trans (heap_alloc_new w o)
theorem two_second' (w : World) (o p : Obj) : ((w.alloc o).alloc p).heap[w.heap.size + 1]? = some p := by
  have := heap_alloc_new (w.alloc o) p
  rwa [World.size_alloc] at this

theorem conv_one (b : UInt8) (W : World) : (convert 48 9 (.slice (some ⟨W.heap.size, 0, none⟩) 1 1)).run Tryz.prog (W.alloc (.cells #[.int .u8 (b.toNat : Int)] 5)) = .ok (.string ⟨#[b]⟩) (W.alloc (.cells #[.int .u8 (b.toNat : Int)] 5)) := by
  refine Lib.run_convert_whole (P := Tryz.prog) _ 48 5 9 Tryz.underlying48 Tryz.underlying5 Tryz.underlying9 W.heap.size 0 ⟨#[b]⟩ (fun i hi => ?_) 1
  have hi' : i < 1 := hi
  obtain rfl : i = 0 := by omega
  exact cell_of_row _ _ 0 _ _ _ (heap_alloc_new W _)

/-- What has been laid behind k rounds. -/
def newsK (k j : Nat) : Option (Nat × Nat) := if j = 10 ∧ 0 < k then some (92, 110) else if j = 39 ∧ 1 < k then some (92, 39) else if j = 92 ∧ 2 < k then some (92, 92) else none
def olds (k : Nat) : List Value := [Value.string ⟨#[10]⟩, .string ⟨#[39]⟩, .string ⟨#[92]⟩].take k
def Tab (W : World) (C : Array Value) (k : Nat) : Prop := ∀ j, j < 256 → match newsK k j with
  | some (x, y) => ∃ (a cap : Nat) (D : Array Value) (m : Nat × Nat), C[j]? = some (.slice (some ⟨a, 0, none⟩) 2 cap) ∧ W.heap[a]? = some (.cells D 5 m) ∧ D[0]? = some (.int .u8 x) ∧ D[1]? = some (.int .u8 y)
  | none => C[j]? = some (.slice none 0 0)
def BInv (B q : Nat) (w : World) (k : Nat) (W : World) : Prop := ∃ (v : Value) (C : Array Value), Below B w W ∧ B ≤ q ∧ W.heap[q]? = some (.cells C 137 (0, 0)) ∧ W.ownsRow B 9 1 v k (olds k) ∧ C.size = 257 ∧ C[256]? = some v ∧ Tab W C k
theorem Tab.move {W W' : World} {C : Array Value} {k : Nat} (h : Tab W C k) (hm : ∀ (a : Nat) (D : Array Value) (m : Nat × Nat), W.heap[a]? = some (Obj.cells D 5 m) → W'.heap[a]? = some (Obj.cells D 5 m)) : Tab W' C k := by
  intro j hj
  have := h j hj
  revert this
  cases newsK k j with
  | none => exact id
  | some p =>
    rintro ⟨a, cap, D, m, h1, h2, h3, h4⟩
    exact ⟨a, cap, D, m, h1, hm a D m h2, h3, h4⟩
theorem own_slice {W : World} {B e n : Nat} {v : Value} {xs : List Value} (h : W.ownsRow B e 1 v n xs) : ∃ A c, v = .slice A n c := by
  rcases h.2 with ⟨rfl, rfl⟩ | ⟨g, cap, cur, rfl, _⟩
  · exact ⟨none, 0, rfl⟩
  · exact ⟨_, _, rfl⟩
theorem own_ne {W : World} {B e n g t : Nat} {v : Value} {xs : List Value} {C : Array Value} {m : Nat × Nat} (h : W.ownsRow B e 1 v n xs) (hg : W.heap[g]? = some (.cells C t m)) (ht : e ≠ t) : some g ≠ v.ownBlock := by
  rcases h.2 with ⟨rfl, _⟩ | ⟨g', cap, cur, rfl, _, hk, _⟩
  · simp [Value.ownBlock]
  · intro he
    obtain rfl : g = g' := Option.some.inj he
    rw [hg] at hk
    cases hk
    exact ht rfl
theorem old_block {W : World} {k : Nat} {x : Obj} (o : Obj) (h : W.heap[k]? = some x) : (W.alloc o).heap[k]? = some x := (Below.heap_alloc W o k (Array.getElem?_eq_some_iff.1 h).1).trans h
theorem setb_block {W : World} {g t j : Nat} {C : Array Value} {m : Nat × Nat} (v : Value) (h : W.heap[g]? = some (.cells C t m)) : (W.setCell ⟨g, j, none⟩ v).heap[g]? = some (.cells (C.setIfInBounds j v) t m) := by
  simp [World.setCell, Array.getElem?_modify, h]
theorem block_ty {W : World} {g t t' : Nat} {C C' : Array Value} {m m' : Nat × Nat} (h : W.heap[g]? = some (Obj.cells C t m)) (h' : W.heap[g]? = some (Obj.cells C' t' m')) : t = t' := by
  rw [h] at h'
  cases h'
  rfl
theorem far_block {W : World} {g : Nat} {x : Obj} {p : Addr} (v : Value) (h : W.heap[g]? = some x) (hne : g ≠ p.block) : (W.setCell p v).heap[g]? = some x := (Below.heap_setCell W p v g hne).trans h

theorem own_ne' {W : World} {B e n g t : Nat} {v : Value} {xs : List Value} {C : Array Value} {m : Nat × Nat} (h : W.ownsRow B e 1 v n xs) (hg : W.heap[g]? = some (Obj.cells C t m)) (ht : e ≠ t) : some g ≠ v.ownBlock := own_ne h hg ht
theorem own_far {W : World} {B e n q t j : Nat} {v u : Value} {xs : List Value} {C : Array Value} {m : Nat × Nat} (h : W.ownsRow B e 1 v n xs) (hg : W.heap[q]? = some (Obj.cells C t m)) (ht : e ≠ t) : (W.setCell ⟨q, j, none⟩ u).ownsRow B e 1 v n xs := by
  obtain ⟨hl, h | ⟨g, cap, cur, hv, hb, hk, h1⟩⟩ := h
  · exact ⟨hl, .inl h⟩
  · refine ⟨hl, .inr ⟨g, cap, cur, hv, hb, ?_, h1⟩⟩
    refine far_block u hk ?_
    rintro rfl
    rw [hg] at hk
    cases hk
    exact ht rfl
theorem own_old {W : World} {B e n : Nat} {v : Value} {xs : List Value} (o : Obj) (h : W.ownsRow B e 1 v n xs) : (W.alloc o).ownsRow B e 1 v n xs := h.alloc o
theorem own_drew {W : World} {B e n : Nat} {v : Value} {xs : List Value} (h : W.ownsRow B e 1 v n xs) : W.drew.ownsRow B e 1 v n xs := h
theorem block_next {W w2 : World} {q : Nat} {v : Value} {x o p : Obj} (hrow : W.heap[q]? = some x) (hg : ((W.alloc o).alloc p).grownBy w2 v.ownBlock) (hne : some q ≠ v.ownBlock) : w2.heap[q]? = some x :=
  (hg.block q (Array.getElem?_eq_some_iff.1 (old_block p (old_block o hrow))).1 hne).trans (old_block p (old_block o hrow))
theorem own_from {W : World} {B e n : Nat} {v : Value} {xs : List Value} (h : W.ownsRow B e 1 v n xs) : ∀ k, v.ownBlock = some k → B ≤ k := by
  rcases h.2 with ⟨rfl, _⟩ | ⟨g', cap, cur, rfl, hb, _⟩
  · intro k hk; cases hk
  · intro k hk
    obtain rfl : g' = k := Option.some.inj hk
    exact hb
theorem binv_next {B q k j x y cap : Nat} {w W w2 : World} {C row : Array Value} {v v2 s : Value} {o p : Obj} {m : Nat × Nat}
    (hb : Below B w W) (hq : B ≤ q) (hrow : W.heap[q]? = some (Obj.cells C 137 (0, 0))) (hown : W.ownsRow B 9 1 v k (olds k)) (hsz : C.size = 257) (htab : Tab W C k)
    (hown2 : w2.ownsRow B 9 1 v2 (k + 1) (olds k ++ [s])) (hg : ((W.alloc o).alloc p).grownBy w2 v.ownBlock) (hBW : B ≤ W.heap.size)
    (hos : olds k ++ [s] = olds (k + 1)) (hj : newsK (k + 1) j = some (x, y)) (hoth : ∀ i, i ≠ j → newsK (k + 1) i = newsK k i) (hj256 : j < 256) (r0 : row[0]? = some (.int .u8 x)) (r1 : row[1]? = some (.int .u8 y)) :
    BInv B q w (k + 1) ((((w2.setCell ⟨q, 256, none⟩ v2).setCell ⟨q, j, none⟩ (.slice (some ⟨w2.heap.size, 0, none⟩) 2 cap)).alloc (.cells row 5 m)).drew) := by
  have hne := own_ne hown hrow (by decide)
  have hr2 := block_next hrow hg hne
  have hr3 := setb_block (j := 256) v2 hr2
  have hr4 := setb_block (j := j) (.slice (some ⟨w2.heap.size, 0, none⟩) 2 cap) hr3
  have hsz' : (C.setIfInBounds 256 v2).size = 257 := by simp [hsz]
  refine ⟨v2, (C.setIfInBounds 256 v2).setIfInBounds j (.slice (some ⟨w2.heap.size, 0, none⟩) 2 cap), ?_, hq, ?_, ?_, by simp [hsz], ?_, ?_⟩
  · have h1 : Below B w ((W.alloc o).alloc p) := (hb.alloc hBW o).alloc (by rw [World.size_alloc]; omega) p
    have h2 : Below B w w2 := h1.grown hg (by rw [World.size_alloc, World.size_alloc]; omega) (fun r hr => own_from hown r hr)
    exact (((h2.setCell (p := ⟨q, 256, none⟩) hq v2).setCell (p := ⟨q, j, none⟩) hq _).alloc (by have := hg.size; rw [World.size_alloc, World.size_alloc] at this; rw [World.size_setCell, World.size_setCell]; omega) _).drew
  · exact old_block (W := (w2.setCell ⟨q, 256, none⟩ v2).setCell ⟨q, j, none⟩ (.slice (some ⟨w2.heap.size, 0, none⟩) 2 cap)) _ hr4
  · rw [← hos]
    exact own_drew (own_old _ (own_far (own_far hown2 hr2 (by decide)) hr3 (by decide)))
  · rw [Array.getElem?_setIfInBounds_ne (by omega)]
    simp [hsz]
  · intro i hi
    by_cases hij : i = j
    · subst hij
      rw [hj]
      refine ⟨w2.heap.size, cap, row, m, by rw [Array.getElem?_setIfInBounds, if_pos rfl, if_pos (by rw [hsz']; omega)], ?_, r0, r1⟩
      have := heap_alloc_new ((w2.setCell ⟨q, 256, none⟩ v2).setCell ⟨q, i, none⟩ (.slice (some ⟨w2.heap.size, 0, none⟩) 2 cap)) (.cells row 5 m)
      rw [World.size_setCell, World.size_setCell] at this
      exact this
    · rw [hoth i hij]
      have hC : ((C.setIfInBounds 256 v2).setIfInBounds j (.slice (some ⟨w2.heap.size, 0, none⟩) 2 cap))[i]? = C[i]? := by
        rw [Array.getElem?_setIfInBounds_ne (fun e => hij e.symm), Array.getElem?_setIfInBounds_ne (by omega)]
      have ht := Tab.move (W' := (((w2.setCell ⟨q, 256, none⟩ v2).setCell ⟨q, j, none⟩ (.slice (some ⟨w2.heap.size, 0, none⟩) 2 cap)).alloc (.cells row 5 m)).drew) htab (fun a D m' ha => by
        have ha2 := block_next ha hg (own_ne hown ha (by decide))
        have hqa : a ≠ q := by
          rintro rfl
          exact absurd (block_ty hrow ha) (by decide)
        exact old_block (W := (w2.setCell ⟨q, 256, none⟩ v2).setCell ⟨q, j, none⟩ (.slice (some ⟨w2.heap.size, 0, none⟩) 2 cap)) _ (far_block _ (far_block _ ha2 hqa) hqa)) i hi
      rw [hC]
      exact ht

theorem newsK_0 : ∀ i, i ≠ 10 → newsK (0 + 1) i = newsK 0 i := by intro i hi; simp [newsK, hi]
theorem newsK_1 : ∀ i, i ≠ 39 → newsK (1 + 1) i = newsK 1 i := by intro i hi; simp [newsK, hi]
theorem newsK_2 : ∀ i, i ≠ 92 → newsK (2 + 1) i = newsK 2 i := by intro i hi; simp [newsK, hi]
theorem row0 (x y : UInt8) (cap : Nat) : (bytesRow ⟨#[x, y]⟩ cap)[0]? = some (.int .u8 (x.toNat : Int)) := by
  unfold bytesRow
  rw [Array.getElem?_append_left (by simp)]
  simp
theorem row1 (x y : UInt8) (cap : Nat) : (bytesRow ⟨#[x, y]⟩ cap)[1]? = some (.int .u8 (y.toNat : Int)) := by
  unfold bytesRow
  rw [Array.getElem?_append_left (by simp)]
  simp
theorem infoString : (Tryz.prog.info? 9).map (fun i => (i.zero, i.size, i.bytes)) = some (some (.string ⟨#[]⟩), 1, 16) := by kernel_rfl
theorem binv_start (w : World) : BInv w.heap.size (w.heap.size + 1) w 0 ((w.alloc (.cells #[.string ⟨#[]⟩, .string ⟨#[]⟩, .string ⟨#[]⟩] 9)).alloc (.cells (rep0 (.slice (some ⟨w.heap.size, 0, none⟩) 0 3)) 137)) := by
  refine ⟨.slice (some ⟨w.heap.size, 0, none⟩) 0 3, rep0 (.slice (some ⟨w.heap.size, 0, none⟩) 0 3), ((Below.refl _ _).alloc (Nat.le_refl _) _).alloc (by simp) _, by omega, two_second' w _ _, ?_, rep0_size _, rep0_last _, fun j hj => ?_⟩
  · exact (World.ownsRow_made w _ 3 (Nat.le_refl _) (by decide) rfl).alloc _
  · have : newsK 0 j = none := by simp [newsK]
    rw [this]
    exact rep0_at _ j hj
set_option maxRecDepth 100000 in
set_option maxHeartbeats 4000000 in
theorem build_calls (r g c : Nat) (w : World) (h4 : w.cell? ⟨r, 4, none⟩ = some (.slice (some ⟨g, 0, none⟩) 6 c))
    (s0 : w.cell? ⟨g, 0, none⟩ = some (.string ⟨#[92]⟩)) (s1 : w.cell? ⟨g, 1, none⟩ = some (.string ⟨#[92, 92]⟩)) (s2 : w.cell? ⟨g, 2, none⟩ = some (.string ⟨#[39]⟩)) (s3 : w.cell? ⟨g, 3, none⟩ = some (.string ⟨#[92, 39]⟩)) (s4 : w.cell? ⟨g, 4, none⟩ = some (.string ⟨#[10]⟩)) (s5 : w.cell? ⟨g, 5, none⟩ = some (.string ⟨#[92, 110]⟩)) :
    Calls Tryz.prog 81 #[.pointer (some ⟨r, 0, none⟩)] w fun e w' => ∃ q, e = .returned (.iface 138 (.pointer (some ⟨q, 0, none⟩))) ∧ BInv w.heap.size q w 3 w' := by
  have hmk : ∀ w, (Instr.makeSlice 69 (.int .i64 0) (.int .i64 3)).run Tryz.prog w = .ok (.slice (some ⟨w.heap.size, 0, none⟩) 0 3) (w.alloc (.cells #[.string ⟨#[]⟩, .string ⟨#[]⟩, .string ⟨#[]⟩] 9)) := fun _ => by kernel_rfl
  have hst := fun (W : World) (o : Obj) => store_rep W o (.slice (some ⟨W.heap.size, 0, none⟩) 0 3) rfl
  have hsn := fun (w : World) (a : Option Addr) (n c n' c' : Nat) => Lib.run_eql_slice_nil (P := Tryz.prog) w 48 5 a n c n' c' Tryz.underlying48
  have hc10 : ∀ W : World, (convert 48 9 (.slice (some ⟨W.heap.size, 0, none⟩) 1 1)).run Tryz.prog (W.alloc (.cells #[.int .u8 10] 5)) = .ok (.string ⟨#[10]⟩) (W.alloc (.cells #[.int .u8 10] 5)) := conv_one 10
  have hc39 : ∀ W : World, (convert 48 9 (.slice (some ⟨W.heap.size, 0, none⟩) 1 1)).run Tryz.prog (W.alloc (.cells #[.int .u8 39] 5)) = .ok (.string ⟨#[39]⟩) (W.alloc (.cells #[.int .u8 39] 5)) := conv_one 39
  have hc92 : ∀ W : World, (convert 48 9 (.slice (some ⟨W.heap.size, 0, none⟩) 1 1)).run Tryz.prog (W.alloc (.cells #[.int .u8 92] 5)) = .ok (.string ⟨#[92]⟩) (W.alloc (.cells #[.int .u8 92] 5)) := conv_one 92
  have e10 : ∀ h, ((⟨#[10]⟩ : ByteArray)[0]'h).toNat = 10 := fun _ => rfl
  have e39 : ∀ h, ((⟨#[39]⟩ : ByteArray)[0]'h).toNat = 39 := fun _ => rfl
  have e92 : ∀ h, ((⟨#[92]⟩ : ByteArray)[0]'h).toNat = 92 := fun _ => rfl
  have hn10 : ∀ W : World, (convert 9 48 (.string ⟨#[92, 110]⟩)).run Tryz.prog W = .ok (.slice (some ⟨W.heap.size, 0, none⟩) 2 (grownCap W 2 0 5)) (W.drew.alloc (.cells (bytesRow ⟨#[92, 110]⟩ (grownCap W 2 0 5)) 5 ((bytesRow ⟨#[92, 110]⟩ (grownCap W 2 0 5)).size, (bytesRow ⟨#[92, 110]⟩ (grownCap W 2 0 5)).size + 1))) := fun W => run_bytes_of_string W 9 48 5 ⟨#[92, 110]⟩ Tryz.underlying9 Tryz.underlying48 Tryz.underlying5
  have hn39 : ∀ W : World, (convert 9 48 (.string ⟨#[92, 39]⟩)).run Tryz.prog W = .ok (.slice (some ⟨W.heap.size, 0, none⟩) 2 (grownCap W 2 0 5)) (W.drew.alloc (.cells (bytesRow ⟨#[92, 39]⟩ (grownCap W 2 0 5)) 5 ((bytesRow ⟨#[92, 39]⟩ (grownCap W 2 0 5)).size, (bytesRow ⟨#[92, 39]⟩ (grownCap W 2 0 5)).size + 1))) := fun W => run_bytes_of_string W 9 48 5 ⟨#[92, 39]⟩ Tryz.underlying9 Tryz.underlying48 Tryz.underlying5
  have hn92 : ∀ W : World, (convert 9 48 (.string ⟨#[92, 92]⟩)).run Tryz.prog W = .ok (.slice (some ⟨W.heap.size, 0, none⟩) 2 (grownCap W 2 0 5)) (W.drew.alloc (.cells (bytesRow ⟨#[92, 92]⟩ (grownCap W 2 0 5)) 5 ((bytesRow ⟨#[92, 92]⟩ (grownCap W 2 0 5)).size, (bytesRow ⟨#[92, 92]⟩ (grownCap W 2 0 5)).size + 1))) := fun W => run_bytes_of_string W 9 48 5 ⟨#[92, 92]⟩ Tryz.underlying9 Tryz.underlying48 Tryz.underlying5
  obtain ⟨i0, hi, hz0, hz1, hz2⟩ := info_parts infoString
  go_enter Tryz.func81, Tryz.ntmps81
  go_wp2
  refine wp_loop_rounds 4 ?_
  rw [rounds_succ]
  go_wp2
  rw [rounds_succ]
  go_wp2
  rw [rounds_succ]
  go_wp2
  rw [rounds_succ]
  go_wp2
  have hinv := binv_start w
  go_loopw [12, 13, 14] (fun i _ _ wr => ∃ k : Nat, k ≤ 3 ∧ i = .int .i64 (4 - 2 * (k : Int)) ∧ BInv w.heap.size (w.heap.size + 1) w k wr) (fun i _ _ _ => (intOf i + 2).toNat)
  case atStart => exact ⟨0, by omega, rfl, hinv⟩
  case round =>
    obtain ⟨k, hk, rfl, hI⟩ := hrel
    have HI := Lib.hid hI
    clear hI hinv
    obtain ⟨v, C, hb, hq, hrow, hown, hsz, hv, htab⟩ := HI.out
    have hq0 : ∀ j, wr.cell? ⟨w.heap.size + 1, j, none⟩ = C[j]? := fun j => cell_of_row _ _ j _ _ _ hrow
    have hf0 : ∀ j, wr.frozen? ⟨w.heap.size + 1, j, none⟩ = false := fun j => by simp [World.frozen?, hrow]
    have c256 := (hq0 256).trans hv
    have f256 := hf0 256
    obtain ⟨A0, c0, hvs⟩ := own_slice hown
    have hne := own_ne hown hrow (by decide)
    have HROW := Lib.hid hrow
    have HOWN := Lib.hid hown
    have HNE := Lib.hid hne
    have HB := Lib.hid hb
    have hkk : k = 0 ∨ k = 1 ∨ k = 2 ∨ k = 3 := by omega
    rcases hkk with rfl | rfl | rfl | rfl
    · have c10 := (hq0 10).trans (htab 10 (by decide))
      have f10 := hf0 10
      have x4 := cell_below hb s4
      have x5 := cell_below hb s5
      clear hrow hq0 hf0 hown hvs hne
      have HV := Lib.hid hv
      have HTAB := Lib.hid htab
      have hBW := hb.size
      clear hv htab hb
      go_wp2_with (at_builtin; refine RowKit.Hid.out ?_)
      refine Lib.hid ?_
      refine wpList_append_own_at _ rfl (.tmp 119) (.tmp 123) 69 rfl w.heap.size 9 i0 (.string ⟨#[]⟩) 1 16 Tryz.underlying69 hi hz0 hz1 hz2 rfl (by decide) v 0 (olds 0) rfl ((HOWN.out.alloc _).alloc _) ⟨wr.heap.size + 1, 0, none⟩ 1 1 [.string ⟨#[10]⟩] rfl rfl ?_ ?_ ?_ ?_ ?_ ?_
      · intro j u hu
        have hj0 : j = 0 := by
          have := (List.getElem?_eq_some_iff.1 hu).1
          simp at this
          omega
        subst hj0
        obtain rfl : Value.string ⟨#[10]⟩ = u := by simpa using hu
        exact cell_of_row _ _ 0 _ _ _ (two_second' wr _ _)
      · intro u hu
        obtain rfl : u = Value.string ⟨#[10]⟩ := by simpa using hu
        rfl
      · decide
      · decide
      · rw [World.size_alloc, World.size_alloc]; omega
      intro v2 w2 hown2 hg2 _ hat2
      obtain ⟨A2, c2, rfl⟩ := own_slice hown2
      have r2 := block_next HROW.out hg2 HNE.out
      have p256 : w2.cell? ⟨w.heap.size + 1, 256, none⟩ = some v := (cell_of_row _ _ 256 _ _ _ r2).trans HV.out
      have p10 : w2.cell? ⟨w.heap.size + 1, 10, none⟩ = some (.slice none 0 0) := (cell_of_row _ _ 10 _ _ _ r2).trans (HTAB.out 10 (by decide))
      have q256 : w2.frozen? ⟨w.heap.size + 1, 256, none⟩ = false := by simp [World.frozen?, r2]
      have q10 : w2.frozen? ⟨w.heap.size + 1, 10, none⟩ = false := by simp [World.frozen?, r2]
      have hlt2 : w.heap.size + 1 < w2.heap.size := (Array.getElem?_eq_some_iff.1 r2).1
      have HG2 := Lib.hid hg2
      have HOWN2 := Lib.hid hown2
      clear r2 hg2 hown2 hat2
      go_wp2
      exact ⟨⟨1, by omega, rfl, binv_next (s := .string ⟨#[10]⟩) (x := 92) (y := 110) HB.out hq HROW.out HOWN.out hsz HTAB.out HOWN2.out HG2.out hBW rfl (by decide) newsK_0 (by decide) (row0 _ _ _) (row1 _ _ _)⟩, by decide⟩
    · have c39 := (hq0 39).trans (htab 39 (by decide))
      have f39 := hf0 39
      have x4 := cell_below hb s2
      have x5 := cell_below hb s3
      clear hrow hq0 hf0 hown hvs hne
      have HV := Lib.hid hv
      have HTAB := Lib.hid htab
      have hBW := hb.size
      clear hv htab hb
      go_wp2_with (at_builtin; refine RowKit.Hid.out ?_)
      refine Lib.hid ?_
      refine wpList_append_own_at _ rfl (.tmp 119) (.tmp 123) 69 rfl w.heap.size 9 i0 (.string ⟨#[]⟩) 1 16 Tryz.underlying69 hi hz0 hz1 hz2 rfl (by decide) v 1 (olds 1) rfl ((HOWN.out.alloc _).alloc _) ⟨wr.heap.size + 1, 0, none⟩ 1 1 [.string ⟨#[39]⟩] rfl rfl ?_ ?_ ?_ ?_ ?_ ?_
      · intro j u hu
        have hj0 : j = 0 := by
          have := (List.getElem?_eq_some_iff.1 hu).1
          simp at this
          omega
        subst hj0
        obtain rfl : Value.string ⟨#[39]⟩ = u := by simpa using hu
        exact cell_of_row _ _ 0 _ _ _ (two_second' wr _ _)
      · intro u hu
        obtain rfl : u = Value.string ⟨#[39]⟩ := by simpa using hu
        rfl
      · decide
      · decide
      · rw [World.size_alloc, World.size_alloc]; omega
      intro v2 w2 hown2 hg2 _ hat2
      obtain ⟨A2, c2, rfl⟩ := own_slice hown2
      have r2 := block_next HROW.out hg2 HNE.out
      have p256 : w2.cell? ⟨w.heap.size + 1, 256, none⟩ = some v := (cell_of_row _ _ 256 _ _ _ r2).trans HV.out
      have p10 : w2.cell? ⟨w.heap.size + 1, 39, none⟩ = some (.slice none 0 0) := (cell_of_row _ _ 39 _ _ _ r2).trans (HTAB.out 39 (by decide))
      have q256 : w2.frozen? ⟨w.heap.size + 1, 256, none⟩ = false := by simp [World.frozen?, r2]
      have q10 : w2.frozen? ⟨w.heap.size + 1, 39, none⟩ = false := by simp [World.frozen?, r2]
      have hlt2 : w.heap.size + 1 < w2.heap.size := (Array.getElem?_eq_some_iff.1 r2).1
      have HG2 := Lib.hid hg2
      have HOWN2 := Lib.hid hown2
      clear r2 hg2 hown2 hat2
      go_wp2
      exact ⟨⟨2, by omega, rfl, binv_next (s := .string ⟨#[39]⟩) (x := 92) (y := 39) HB.out hq HROW.out HOWN.out hsz HTAB.out HOWN2.out HG2.out hBW rfl (by decide) newsK_1 (by decide) (row0 _ _ _) (row1 _ _ _)⟩, by decide⟩
    · have c92 := (hq0 92).trans (htab 92 (by decide))
      have f92 := hf0 92
      have x4 := cell_below hb s0
      have x5 := cell_below hb s1
      clear hrow hq0 hf0 hown hvs hne
      have HV := Lib.hid hv
      have HTAB := Lib.hid htab
      have hBW := hb.size
      clear hv htab hb
      go_wp2_with (at_builtin; refine RowKit.Hid.out ?_)
      refine Lib.hid ?_
      refine wpList_append_own_at _ rfl (.tmp 119) (.tmp 123) 69 rfl w.heap.size 9 i0 (.string ⟨#[]⟩) 1 16 Tryz.underlying69 hi hz0 hz1 hz2 rfl (by decide) v 2 (olds 2) rfl ((HOWN.out.alloc _).alloc _) ⟨wr.heap.size + 1, 0, none⟩ 1 1 [.string ⟨#[92]⟩] rfl rfl ?_ ?_ ?_ ?_ ?_ ?_
      · intro j u hu
        have hj0 : j = 0 := by
          have := (List.getElem?_eq_some_iff.1 hu).1
          simp at this
          omega
        subst hj0
        obtain rfl : Value.string ⟨#[92]⟩ = u := by simpa using hu
        exact cell_of_row _ _ 0 _ _ _ (two_second' wr _ _)
      · intro u hu
        obtain rfl : u = Value.string ⟨#[92]⟩ := by simpa using hu
        rfl
      · decide
      · decide
      · rw [World.size_alloc, World.size_alloc]; omega
      intro v2 w2 hown2 hg2 _ hat2
      obtain ⟨A2, c2, rfl⟩ := own_slice hown2
      have r2 := block_next HROW.out hg2 HNE.out
      have p256 : w2.cell? ⟨w.heap.size + 1, 256, none⟩ = some v := (cell_of_row _ _ 256 _ _ _ r2).trans HV.out
      have p10 : w2.cell? ⟨w.heap.size + 1, 92, none⟩ = some (.slice none 0 0) := (cell_of_row _ _ 92 _ _ _ r2).trans (HTAB.out 92 (by decide))
      have q256 : w2.frozen? ⟨w.heap.size + 1, 256, none⟩ = false := by simp [World.frozen?, r2]
      have q10 : w2.frozen? ⟨w.heap.size + 1, 92, none⟩ = false := by simp [World.frozen?, r2]
      have hlt2 : w.heap.size + 1 < w2.heap.size := (Array.getElem?_eq_some_iff.1 r2).1
      have HG2 := Lib.hid hg2
      have HOWN2 := Lib.hid hown2
      clear r2 hg2 hown2 hat2
      go_wp2
      exact ⟨⟨3, by omega, rfl, binv_next (s := .string ⟨#[92]⟩) (x := 92) (y := 92) HB.out hq HROW.out HOWN.out hsz HTAB.out HOWN2.out HG2.out hBW rfl (by decide) newsK_2 (by decide) (row0 _ _ _) (row1 _ _ _)⟩, by decide⟩
    · go_wp2
      go_ret
      exact ⟨_, rfl, HI.out⟩
end Go.Proofs.YtdfjhhhbkgelaaaGreatDoor.V
