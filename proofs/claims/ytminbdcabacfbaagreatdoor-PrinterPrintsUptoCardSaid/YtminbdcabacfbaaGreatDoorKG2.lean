/- (*strings.Replacer).build at the three pairs that value.Text replaces. (*strings.Replacer).buildOnce, and sync.Once's slow road round it: the lock is taken, the table is built, the two deferred calls. What value.Text's replacement comes to, byte by byte: plain laws. (*strings.byteStringReplacer).Replace, over the table that build has laid. strings.NewReplacer at the three pairs, and (*strings.Replacer).Replace behind it. value.Text: a number's figures, a plain name, or the name in marks. What a row of law05 opens beside: the laid table of tens. Figures and what is set ahead of a byte: plain laws. Tokens as a text, and that text's tokens: with no program in sight. The document's programs of tokens, with no program in sight. Programs as texts, and those texts' programs: with no program in sight. (*strings.Builder).copyCheck and WriteString, in this program, whose copyCheck ends where the address is another. -/
import Derived.WalkLawsBesides
import Derived.WalkSpells
import Derived.Below
import Derived.Lib.Hide
import Derived.Outline
import Derived.LoopTactic
import Derived.LoopN
import Derived.Deep.WholeRow
import Derived.Lib.SlBytesRow
import Derived.Laws.IdiomStrings
import Derived.Maps.AppendAt
import Derived.Laws.OwnMore
import Derived.Lib.Strings
import Derived.Shelf.Strings.Count
import Derived.Laws.CopyOwn
import Derived.Deep.QuietTactic
import Derived.BigQuiet
import Derived.Deep.Cut
import Derived.Deep.DeepCutAuto
import Derived.Laws.MakeOwn
import Derived.Deep.RegionLaw
import Derived.Deep.RegionHeld3
import Derived.IntWalk
import Derived.WalkSmall
import Derived.Lib.ParseIntBCases
import Derived.Lib.ItoaNum
import Derived.Shelf.Strings.BuilderK
import Derived.KernelRfl
import Derived.Test.YtminbdcabacfbaaGreatDoorKG1
namespace Go.Proofs.YtminbdcabacfbaaGreatDoor.V
set_option linter.unusedVariables false
open Go.RowKit
set_option linter.unusedSimpArgs false

/-- The block of a byteStringReplacer, its table empty. -/
noncomputable def rep0 (x : Value) : Array Value := (Tryz.zeroCells216.toList.set 256 x).toArray
theorem rep0_size (x : Value) : (rep0 x).size = 257 := by
  unfold rep0
  rw [List.size_toArray, List.length_set]
  kernel_rfl
theorem zeros_list : Tryz.zeroCells216.toList = List.replicate 256 (Value.slice none 0 0) ++ [Value.slice none 0 0] := by kernel_rfl
theorem rep0_all (x : Value) (hx : x.oneCell' = true) : (rep0 x).all (·.oneCell') = true := by
  rw [Array.all_eq_true']
  intro v hv
  unfold rep0 at hv
  have hv' : v ∈ Tryz.zeroCells216.toList.set 256 x := List.mem_toArray.1 hv
  rcases List.mem_or_eq_of_mem_set hv' with h | rfl
  · rw [zeros_list] at h
    rcases List.mem_append.1 h with h | h
    · rw [List.eq_of_mem_replicate h]; rfl
    · rw [List.mem_singleton.1 h]; rfl
  · exact hx
theorem rep0_at (x : Value) (i : Nat) (hi : i < 256) : (rep0 x)[i]? = some (.slice none 0 0) := by
  unfold rep0
  rw [List.getElem?_toArray, List.getElem?_set_ne (by omega), zeros_list, List.getElem?_append_left (by rw [List.length_replicate]; exact hi), List.getElem?_replicate, if_pos hi]
theorem rep0_last (x : Value) : (rep0 x)[256]? = some x := by
  unfold rep0
  rw [List.getElem?_toArray, List.getElem?_set_self]
  rw [zeros_list, List.length_append, List.length_replicate]
  decide
theorem store_rep (W : World) (o : Obj) (x : Value) (hx : x.oneCell' = true) : (storeCells ⟨W.heap.size + 1, 0, none⟩ (Tryz.zeroCells216.toList.set 256 x)).run Tryz.prog ((W.alloc o).alloc (.cells Tryz.zeroCells216 216)) = .ok () ((W.alloc o).alloc (.cells (rep0 x) 216)) := by
  have h := run_storeCells_new (P := Tryz.prog) (W.alloc o) 216 Tryz.zeroCells216 (rep0 x) (by rw [rep0_size]; kernel_rfl) (by rw [rep0_size]; kernel_rfl) (rep0_all x hx)
  rw [World.size_alloc] at h
  have e : (rep0 x).toList = Tryz.zeroCells216.toList.set 256 x := by simp [rep0]
  rw [e] at h
  exact h

theorem two_second' (w : World) (o p : Obj) : ((w.alloc o).alloc p).heap[w.heap.size + 1]? = some p := by
  have := heap_alloc_new (w.alloc o) p
  rwa [World.size_alloc] at this

theorem conv_one (b : UInt8) (W : World) : (convert 82 9 (.slice (some ⟨W.heap.size, 0, none⟩) 1 1)).run Tryz.prog (W.alloc (.cells #[.int .u8 (b.toNat : Int)] 5)) = .ok (.string ⟨#[b]⟩) (W.alloc (.cells #[.int .u8 (b.toNat : Int)] 5)) := by
  refine Lib.run_convert_whole (P := Tryz.prog) _ 82 5 9 Tryz.underlying82 Tryz.underlying5 Tryz.underlying9 W.heap.size 0 ⟨#[b]⟩ (fun i hi => ?_) 1
  have hi' : i < 1 := hi
  obtain rfl : i = 0 := by omega
  exact cell_of_row _ _ 0 _ _ _ (heap_alloc_new W _)

/-- What has been laid behind k rounds. -/
def newsK (k j : Nat) : Option (Nat × Nat) := if j = 10 ∧ 0 < k then some (92, 110) else if j = 39 ∧ 1 < k then some (92, 39) else if j = 92 ∧ 2 < k then some (92, 92) else none
def olds (k : Nat) : List Value := [Value.string ⟨#[10]⟩, .string ⟨#[39]⟩, .string ⟨#[92]⟩].take k
def Tab (W : World) (C : Array Value) (k : Nat) : Prop := ∀ j, j < 256 → match newsK k j with
  | some (x, y) => ∃ (a cap : Nat) (D : Array Value) (m : Nat × Nat), C[j]? = some (.slice (some ⟨a, 0, none⟩) 2 cap) ∧ W.heap[a]? = some (.cells D 5 m) ∧ D[0]? = some (.int .u8 x) ∧ D[1]? = some (.int .u8 y)
  | none => C[j]? = some (.slice none 0 0)
def BInv (B q : Nat) (w : World) (k : Nat) (W : World) : Prop := ∃ (v : Value) (C : Array Value), Below B w W ∧ B ≤ q ∧ W.heap[q]? = some (.cells C 216 (0, 0)) ∧ W.ownsRow B 9 1 v k (olds k) ∧ C.size = 257 ∧ C[256]? = some v ∧ Tab W C k
theorem Tab.move {W W' : World} {C : Array Value} {k : Nat} (h : Tab W C k) (hm : ∀ (a : Nat) (D : Array Value) (m : Nat × Nat), W.heap[a]? = some (Obj.cells D 5 m) → W'.heap[a]? = some (Obj.cells D 5 m)) : Tab W' C k := by
  intro j hj
  have := h j hj
  revert this
  cases newsK k j with
  | none => exact id
  | some p =>
    rintro ⟨a, cap, D, m, h1, h2, h3, h4⟩
    exact ⟨a, cap, D, m, h1, hm a D m h2, h3, h4⟩
theorem own_slice {W : World} {B e n : Nat} {v : Value} {xs : List Value} (h : W.ownsRow B e 1 v n xs) : ∃ A c, v = .slice A n c := by
  rcases h.2 with ⟨rfl, rfl⟩ | ⟨g, cap, cur, rfl, _⟩
  · exact ⟨none, 0, rfl⟩
  · exact ⟨_, _, rfl⟩
theorem own_ne {W : World} {B e n g t : Nat} {v : Value} {xs : List Value} {C : Array Value} {m : Nat × Nat} (h : W.ownsRow B e 1 v n xs) (hg : W.heap[g]? = some (.cells C t m)) (ht : e ≠ t) : some g ≠ v.ownBlock := by
  rcases h.2 with ⟨rfl, _⟩ | ⟨g', cap, cur, rfl, _, hk, _⟩
  · simp [Value.ownBlock]
  · intro he
    obtain rfl : g = g' := Option.some.inj he
    rw [hg] at hk
    cases hk
    exact ht rfl
theorem old_block {W : World} {k : Nat} {x : Obj} (o : Obj) (h : W.heap[k]? = some x) : (W.alloc o).heap[k]? = some x := (Below.heap_alloc W o k (Array.getElem?_eq_some_iff.1 h).1).trans h
theorem setb_block {W : World} {g t j : Nat} {C : Array Value} {m : Nat × Nat} (v : Value) (h : W.heap[g]? = some (.cells C t m)) : (W.setCell ⟨g, j, none⟩ v).heap[g]? = some (.cells (C.setIfInBounds j v) t m) := by
  simp [World.setCell, Array.getElem?_modify, h]
theorem block_ty {W : World} {g t t' : Nat} {C C' : Array Value} {m m' : Nat × Nat} (h : W.heap[g]? = some (Obj.cells C t m)) (h' : W.heap[g]? = some (Obj.cells C' t' m')) : t = t' := by
  rw [h] at h'
  cases h'
  rfl
theorem far_block {W : World} {g : Nat} {x : Obj} {p : Addr} (v : Value) (h : W.heap[g]? = some x) (hne : g ≠ p.block) : (W.setCell p v).heap[g]? = some x := (Below.heap_setCell W p v g hne).trans h

theorem own_far {W : World} {B e n q t j : Nat} {v u : Value} {xs : List Value} {C : Array Value} {m : Nat × Nat} (h : W.ownsRow B e 1 v n xs) (hg : W.heap[q]? = some (Obj.cells C t m)) (ht : e ≠ t) : (W.setCell ⟨q, j, none⟩ u).ownsRow B e 1 v n xs := by
  obtain ⟨hl, h | ⟨g, cap, cur, hv, hb, hk, h1⟩⟩ := h
  · exact ⟨hl, .inl h⟩
  · refine ⟨hl, .inr ⟨g, cap, cur, hv, hb, ?_, h1⟩⟩
    refine far_block u hk ?_
    rintro rfl
    rw [hg] at hk
    cases hk
    exact ht rfl
theorem own_old {W : World} {B e n : Nat} {v : Value} {xs : List Value} (o : Obj) (h : W.ownsRow B e 1 v n xs) : (W.alloc o).ownsRow B e 1 v n xs := h.alloc o
theorem own_drew {W : World} {B e n : Nat} {v : Value} {xs : List Value} (h : W.ownsRow B e 1 v n xs) : W.drew.ownsRow B e 1 v n xs := h
theorem block_next {W w2 : World} {q : Nat} {v : Value} {x o p : Obj} (hrow : W.heap[q]? = some x) (hg : ((W.alloc o).alloc p).grownBy w2 v.ownBlock) (hne : some q ≠ v.ownBlock) : w2.heap[q]? = some x :=
  (hg.block q (Array.getElem?_eq_some_iff.1 (old_block p (old_block o hrow))).1 hne).trans (old_block p (old_block o hrow))
theorem own_from {W : World} {B e n : Nat} {v : Value} {xs : List Value} (h : W.ownsRow B e 1 v n xs) : ∀ k, v.ownBlock = some k → B ≤ k := by
  rcases h.2 with ⟨rfl, _⟩ | ⟨g', cap, cur, rfl, hb, _⟩
  · intro k hk; cases hk
  · intro k hk
    obtain rfl : g' = k := Option.some.inj hk
    exact hb
theorem binv_next {B q k j x y cap : Nat} {w W w2 : World} {C row : Array Value} {v v2 s : Value} {o p : Obj} {m : Nat × Nat}
    (hb : Below B w W) (hq : B ≤ q) (hrow : W.heap[q]? = some (Obj.cells C 216 (0, 0))) (hown : W.ownsRow B 9 1 v k (olds k)) (hsz : C.size = 257) (htab : Tab W C k)
    (hown2 : w2.ownsRow B 9 1 v2 (k + 1) (olds k ++ [s])) (hg : ((W.alloc o).alloc p).grownBy w2 v.ownBlock) (hBW : B ≤ W.heap.size)
    (hos : olds k ++ [s] = olds (k + 1)) (hj : newsK (k + 1) j = some (x, y)) (hoth : ∀ i, i ≠ j → newsK (k + 1) i = newsK k i) (hj256 : j < 256) (r0 : row[0]? = some (.int .u8 x)) (r1 : row[1]? = some (.int .u8 y)) :
    BInv B q w (k + 1) ((((w2.setCell ⟨q, 256, none⟩ v2).setCell ⟨q, j, none⟩ (.slice (some ⟨w2.heap.size, 0, none⟩) 2 cap)).alloc (.cells row 5 m)).drew) := by
  have hne := own_ne hown hrow (by decide)
  have hr2 := block_next hrow hg hne
  have hr3 := setb_block (j := 256) v2 hr2
  have hr4 := setb_block (j := j) (.slice (some ⟨w2.heap.size, 0, none⟩) 2 cap) hr3
  have hsz' : (C.setIfInBounds 256 v2).size = 257 := by simp [hsz]
  refine ⟨v2, (C.setIfInBounds 256 v2).setIfInBounds j (.slice (some ⟨w2.heap.size, 0, none⟩) 2 cap), ?_, hq, ?_, ?_, by simp [hsz], ?_, ?_⟩
  · have h1 : Below B w ((W.alloc o).alloc p) := (hb.alloc hBW o).alloc (by rw [World.size_alloc]; omega) p
    have h2 : Below B w w2 := h1.grown hg (by rw [World.size_alloc, World.size_alloc]; omega) (fun r hr => own_from hown r hr)
    exact (((h2.setCell (p := ⟨q, 256, none⟩) hq v2).setCell (p := ⟨q, j, none⟩) hq _).alloc (by have := hg.size; rw [World.size_alloc, World.size_alloc] at this; rw [World.size_setCell, World.size_setCell]; omega) _).drew
  · exact old_block (W := (w2.setCell ⟨q, 256, none⟩ v2).setCell ⟨q, j, none⟩ (.slice (some ⟨w2.heap.size, 0, none⟩) 2 cap)) _ hr4
  · rw [← hos]
    exact own_drew (own_old _ (own_far (own_far hown2 hr2 (by decide)) hr3 (by decide)))
  · rw [Array.getElem?_setIfInBounds_ne (by omega)]
    simp [hsz]
  · intro i hi
    by_cases hij : i = j
    · subst hij
      rw [hj]
      refine ⟨w2.heap.size, cap, row, m, by rw [Array.getElem?_setIfInBounds, if_pos rfl, if_pos (by rw [hsz']; omega)], ?_, r0, r1⟩
      have := heap_alloc_new ((w2.setCell ⟨q, 256, none⟩ v2).setCell ⟨q, i, none⟩ (.slice (some ⟨w2.heap.size, 0, none⟩) 2 cap)) (.cells row 5 m)
      rw [World.size_setCell, World.size_setCell] at this
      exact this
    · rw [hoth i hij]
      have hC : ((C.setIfInBounds 256 v2).setIfInBounds j (.slice (some ⟨w2.heap.size, 0, none⟩) 2 cap))[i]? = C[i]? := by
        rw [Array.getElem?_setIfInBounds_ne (fun e => hij e.symm), Array.getElem?_setIfInBounds_ne (by omega)]
      have ht := Tab.move (W' := (((w2.setCell ⟨q, 256, none⟩ v2).setCell ⟨q, j, none⟩ (.slice (some ⟨w2.heap.size, 0, none⟩) 2 cap)).alloc (.cells row 5 m)).drew) htab (fun a D m' ha => by
        have ha2 := block_next ha hg (own_ne hown ha (by decide))
        have hqa : a ≠ q := by
          rintro rfl
          exact absurd (block_ty hrow ha) (by decide)
        exact old_block (W := (w2.setCell ⟨q, 256, none⟩ v2).setCell ⟨q, j, none⟩ (.slice (some ⟨w2.heap.size, 0, none⟩) 2 cap)) _ (far_block _ (far_block _ ha2 hqa) hqa)) i hi
      rw [hC]
      exact ht

theorem newsK_0 : ∀ i, i ≠ 10 → newsK (0 + 1) i = newsK 0 i := by intro i hi; simp [newsK, hi]
theorem newsK_1 : ∀ i, i ≠ 39 → newsK (1 + 1) i = newsK 1 i := by intro i hi; simp [newsK, hi]
theorem newsK_2 : ∀ i, i ≠ 92 → newsK (2 + 1) i = newsK 2 i := by intro i hi; simp [newsK, hi]
theorem row0 (x y : UInt8) (cap : Nat) : (bytesRow ⟨#[x, y]⟩ cap)[0]? = some (.int .u8 (x.toNat : Int)) := by
  unfold bytesRow
  rw [Array.getElem?_append_left (by simp)]
  simp
theorem row1 (x y : UInt8) (cap : Nat) : (bytesRow ⟨#[x, y]⟩ cap)[1]? = some (.int .u8 (y.toNat : Int)) := by
  unfold bytesRow
  rw [Array.getElem?_append_left (by simp)]
  simp
theorem infoString : (Tryz.prog.info? 9).map (fun i => (i.zero, i.size, i.bytes)) = some (some (.string ⟨#[]⟩), 1, 16) := by kernel_rfl
theorem binv_start (w : World) : BInv w.heap.size (w.heap.size + 1) w 0 ((w.alloc (.cells #[.string ⟨#[]⟩, .string ⟨#[]⟩, .string ⟨#[]⟩] 9)).alloc (.cells (rep0 (.slice (some ⟨w.heap.size, 0, none⟩) 0 3)) 216)) := by
  refine ⟨.slice (some ⟨w.heap.size, 0, none⟩) 0 3, rep0 (.slice (some ⟨w.heap.size, 0, none⟩) 0 3), ((Below.refl _ _).alloc (Nat.le_refl _) _).alloc (by simp) _, by omega, two_second' w _ _, ?_, rep0_size _, rep0_last _, fun j hj => ?_⟩
  · exact (World.ownsRow_made w _ 3 (Nat.le_refl _) (by decide) rfl).alloc _
  · have : newsK 0 j = none := by simp [newsK]
    rw [this]
    exact rep0_at _ j hj
set_option maxRecDepth 100000 in
set_option maxHeartbeats 4000000 in
theorem build_calls (r g c : Nat) (w : World) (h4 : w.cell? ⟨r, 4, none⟩ = some (.slice (some ⟨g, 0, none⟩) 6 c))
    (s0 : w.cell? ⟨g, 0, none⟩ = some (.string ⟨#[92]⟩)) (s1 : w.cell? ⟨g, 1, none⟩ = some (.string ⟨#[92, 92]⟩)) (s2 : w.cell? ⟨g, 2, none⟩ = some (.string ⟨#[39]⟩)) (s3 : w.cell? ⟨g, 3, none⟩ = some (.string ⟨#[92, 39]⟩)) (s4 : w.cell? ⟨g, 4, none⟩ = some (.string ⟨#[10]⟩)) (s5 : w.cell? ⟨g, 5, none⟩ = some (.string ⟨#[92, 110]⟩)) :
    Calls Tryz.prog 151 #[.pointer (some ⟨r, 0, none⟩)] w fun e w' => ∃ q, e = .returned (.iface 217 (.pointer (some ⟨q, 0, none⟩))) ∧ BInv w.heap.size q w 3 w' := by
  have hmk : ∀ w, (Instr.makeSlice 124 (.int .i64 0) (.int .i64 3)).run Tryz.prog w = .ok (.slice (some ⟨w.heap.size, 0, none⟩) 0 3) (w.alloc (.cells #[.string ⟨#[]⟩, .string ⟨#[]⟩, .string ⟨#[]⟩] 9)) := fun _ => by kernel_rfl
  have hst := fun (W : World) (o : Obj) => store_rep W o (.slice (some ⟨W.heap.size, 0, none⟩) 0 3) rfl
  have hsn := fun (w : World) (a : Option Addr) (n c n' c' : Nat) => Lib.run_eql_slice_nil (P := Tryz.prog) w 82 5 a n c n' c' Tryz.underlying82
  have hc10 : ∀ W : World, (convert 82 9 (.slice (some ⟨W.heap.size, 0, none⟩) 1 1)).run Tryz.prog (W.alloc (.cells #[.int .u8 10] 5)) = .ok (.string ⟨#[10]⟩) (W.alloc (.cells #[.int .u8 10] 5)) := conv_one 10
  have hc39 : ∀ W : World, (convert 82 9 (.slice (some ⟨W.heap.size, 0, none⟩) 1 1)).run Tryz.prog (W.alloc (.cells #[.int .u8 39] 5)) = .ok (.string ⟨#[39]⟩) (W.alloc (.cells #[.int .u8 39] 5)) := conv_one 39
  have hc92 : ∀ W : World, (convert 82 9 (.slice (some ⟨W.heap.size, 0, none⟩) 1 1)).run Tryz.prog (W.alloc (.cells #[.int .u8 92] 5)) = .ok (.string ⟨#[92]⟩) (W.alloc (.cells #[.int .u8 92] 5)) := conv_one 92
  have e10 : ∀ h, ((⟨#[10]⟩ : ByteArray)[0]'h).toNat = 10 := fun _ => rfl
  have e39 : ∀ h, ((⟨#[39]⟩ : ByteArray)[0]'h).toNat = 39 := fun _ => rfl
  have e92 : ∀ h, ((⟨#[92]⟩ : ByteArray)[0]'h).toNat = 92 := fun _ => rfl
  have hn10 : ∀ W : World, (convert 9 82 (.string ⟨#[92, 110]⟩)).run Tryz.prog W = .ok (.slice (some ⟨W.heap.size, 0, none⟩) 2 (grownCap W 2 0 5)) (W.drew.alloc (.cells (bytesRow ⟨#[92, 110]⟩ (grownCap W 2 0 5)) 5 ((bytesRow ⟨#[92, 110]⟩ (grownCap W 2 0 5)).size, (bytesRow ⟨#[92, 110]⟩ (grownCap W 2 0 5)).size + 1))) := fun W => run_bytes_of_string W 9 82 5 ⟨#[92, 110]⟩ Tryz.underlying9 Tryz.underlying82 Tryz.underlying5
  have hn39 : ∀ W : World, (convert 9 82 (.string ⟨#[92, 39]⟩)).run Tryz.prog W = .ok (.slice (some ⟨W.heap.size, 0, none⟩) 2 (grownCap W 2 0 5)) (W.drew.alloc (.cells (bytesRow ⟨#[92, 39]⟩ (grownCap W 2 0 5)) 5 ((bytesRow ⟨#[92, 39]⟩ (grownCap W 2 0 5)).size, (bytesRow ⟨#[92, 39]⟩ (grownCap W 2 0 5)).size + 1))) := fun W => run_bytes_of_string W 9 82 5 ⟨#[92, 39]⟩ Tryz.underlying9 Tryz.underlying82 Tryz.underlying5
  have hn92 : ∀ W : World, (convert 9 82 (.string ⟨#[92, 92]⟩)).run Tryz.prog W = .ok (.slice (some ⟨W.heap.size, 0, none⟩) 2 (grownCap W 2 0 5)) (W.drew.alloc (.cells (bytesRow ⟨#[92, 92]⟩ (grownCap W 2 0 5)) 5 ((bytesRow ⟨#[92, 92]⟩ (grownCap W 2 0 5)).size, (bytesRow ⟨#[92, 92]⟩ (grownCap W 2 0 5)).size + 1))) := fun W => run_bytes_of_string W 9 82 5 ⟨#[92, 92]⟩ Tryz.underlying9 Tryz.underlying82 Tryz.underlying5
  obtain ⟨i0, hi, hz0, hz1, hz2⟩ := info_parts infoString
  go_enter Tryz.func151, Tryz.ntmps151
  go_wp2
  refine wp_loop_rounds 4 ?_
  rw [rounds_succ]
  go_wp2
  rw [rounds_succ]
  go_wp2
  rw [rounds_succ]
  go_wp2
  rw [rounds_succ]
  go_wp2
  have hinv := binv_start w
  go_loopw [12, 13, 14] (fun i _ _ wr => ∃ k : Nat, k ≤ 3 ∧ i = .int .i64 (4 - 2 * (k : Int)) ∧ BInv w.heap.size (w.heap.size + 1) w k wr) (fun i _ _ _ => (intOf i + 2).toNat)
  case atStart => exact ⟨0, by omega, rfl, hinv⟩
  case round =>
    obtain ⟨k, hk, rfl, hI⟩ := hrel
    have HI := Lib.hid hI
    clear hI hinv
    obtain ⟨v, C, hb, hq, hrow, hown, hsz, hv, htab⟩ := HI.out
    have hq0 : ∀ j, wr.cell? ⟨w.heap.size + 1, j, none⟩ = C[j]? := fun j => cell_of_row _ _ j _ _ _ hrow
    have hf0 : ∀ j, wr.frozen? ⟨w.heap.size + 1, j, none⟩ = false := fun j => by simp [World.frozen?, hrow]
    have c256 := (hq0 256).trans hv
    have f256 := hf0 256
    obtain ⟨A0, c0, hvs⟩ := own_slice hown
    have hne := own_ne hown hrow (by decide)
    have HROW := Lib.hid hrow
    have HOWN := Lib.hid hown
    have HNE := Lib.hid hne
    have HB := Lib.hid hb
    have hkk : k = 0 ∨ k = 1 ∨ k = 2 ∨ k = 3 := by omega
    rcases hkk with rfl | rfl | rfl | rfl
    · have c10 := (hq0 10).trans (htab 10 (by decide))
      have f10 := hf0 10
      have x4 := cell_below hb s4
      have x5 := cell_below hb s5
      clear hrow hq0 hf0 hown hvs hne
      have HV := Lib.hid hv
      have HTAB := Lib.hid htab
      have hBW := hb.size
      clear hv htab hb
      go_wp2_with (at_builtin; refine RowKit.Hid.out ?_)
      refine Lib.hid ?_
      refine wpList_append_own_at _ rfl (.tmp 119) (.tmp 123) 124 rfl w.heap.size 9 i0 (.string ⟨#[]⟩) 1 16 Tryz.underlying124 hi hz0 hz1 hz2 rfl (by decide) v 0 (olds 0) rfl ((HOWN.out.alloc _).alloc _) ⟨wr.heap.size + 1, 0, none⟩ 1 1 [.string ⟨#[10]⟩] rfl rfl ?_ ?_ ?_ ?_ ?_ ?_
      · intro j u hu
        have hj0 : j = 0 := by
          have := (List.getElem?_eq_some_iff.1 hu).1
          simp at this
          omega
        subst hj0
        obtain rfl : Value.string ⟨#[10]⟩ = u := by simpa using hu
        exact cell_of_row _ _ 0 _ _ _ (two_second' wr _ _)
      · intro u hu
        obtain rfl : u = Value.string ⟨#[10]⟩ := by simpa using hu
        rfl
      · decide
      · decide
      · rw [World.size_alloc, World.size_alloc]; omega
      intro v2 w2 hown2 hg2 _ hat2
      obtain ⟨A2, c2, rfl⟩ := own_slice hown2
      have r2 := block_next HROW.out hg2 HNE.out
      have p256 : w2.cell? ⟨w.heap.size + 1, 256, none⟩ = some v := (cell_of_row _ _ 256 _ _ _ r2).trans HV.out
      have p10 : w2.cell? ⟨w.heap.size + 1, 10, none⟩ = some (.slice none 0 0) := (cell_of_row _ _ 10 _ _ _ r2).trans (HTAB.out 10 (by decide))
      have q256 : w2.frozen? ⟨w.heap.size + 1, 256, none⟩ = false := by simp [World.frozen?, r2]
      have q10 : w2.frozen? ⟨w.heap.size + 1, 10, none⟩ = false := by simp [World.frozen?, r2]
      have hlt2 : w.heap.size + 1 < w2.heap.size := (Array.getElem?_eq_some_iff.1 r2).1
      have HG2 := Lib.hid hg2
      have HOWN2 := Lib.hid hown2
      clear r2 hg2 hown2 hat2
      go_wp2
      exact ⟨⟨1, by omega, rfl, binv_next (s := .string ⟨#[10]⟩) (x := 92) (y := 110) HB.out hq HROW.out HOWN.out hsz HTAB.out HOWN2.out HG2.out hBW rfl (by decide) newsK_0 (by decide) (row0 _ _ _) (row1 _ _ _)⟩, by decide⟩
    · have c39 := (hq0 39).trans (htab 39 (by decide))
      have f39 := hf0 39
      have x4 := cell_below hb s2
      have x5 := cell_below hb s3
      clear hrow hq0 hf0 hown hvs hne
      have HV := Lib.hid hv
      have HTAB := Lib.hid htab
      have hBW := hb.size
      clear hv htab hb
      go_wp2_with (at_builtin; refine RowKit.Hid.out ?_)
      refine Lib.hid ?_
      refine wpList_append_own_at _ rfl (.tmp 119) (.tmp 123) 124 rfl w.heap.size 9 i0 (.string ⟨#[]⟩) 1 16 Tryz.underlying124 hi hz0 hz1 hz2 rfl (by decide) v 1 (olds 1) rfl ((HOWN.out.alloc _).alloc _) ⟨wr.heap.size + 1, 0, none⟩ 1 1 [.string ⟨#[39]⟩] rfl rfl ?_ ?_ ?_ ?_ ?_ ?_
      · intro j u hu
        have hj0 : j = 0 := by
          have := (List.getElem?_eq_some_iff.1 hu).1
          simp at this
          omega
        subst hj0
        obtain rfl : Value.string ⟨#[39]⟩ = u := by simpa using hu
        exact cell_of_row _ _ 0 _ _ _ (two_second' wr _ _)
      · intro u hu
        obtain rfl : u = Value.string ⟨#[39]⟩ := by simpa using hu
        rfl
      · decide
      · decide
      · rw [World.size_alloc, World.size_alloc]; omega
      intro v2 w2 hown2 hg2 _ hat2
      obtain ⟨A2, c2, rfl⟩ := own_slice hown2
      have r2 := block_next HROW.out hg2 HNE.out
      have p256 : w2.cell? ⟨w.heap.size + 1, 256, none⟩ = some v := (cell_of_row _ _ 256 _ _ _ r2).trans HV.out
      have p10 : w2.cell? ⟨w.heap.size + 1, 39, none⟩ = some (.slice none 0 0) := (cell_of_row _ _ 39 _ _ _ r2).trans (HTAB.out 39 (by decide))
      have q256 : w2.frozen? ⟨w.heap.size + 1, 256, none⟩ = false := by simp [World.frozen?, r2]
      have q10 : w2.frozen? ⟨w.heap.size + 1, 39, none⟩ = false := by simp [World.frozen?, r2]
      have hlt2 : w.heap.size + 1 < w2.heap.size := (Array.getElem?_eq_some_iff.1 r2).1
      have HG2 := Lib.hid hg2
      have HOWN2 := Lib.hid hown2
      clear r2 hg2 hown2 hat2
      go_wp2
      exact ⟨⟨2, by omega, rfl, binv_next (s := .string ⟨#[39]⟩) (x := 92) (y := 39) HB.out hq HROW.out HOWN.out hsz HTAB.out HOWN2.out HG2.out hBW rfl (by decide) newsK_1 (by decide) (row0 _ _ _) (row1 _ _ _)⟩, by decide⟩
    · have c92 := (hq0 92).trans (htab 92 (by decide))
      have f92 := hf0 92
      have x4 := cell_below hb s0
      have x5 := cell_below hb s1
      clear hrow hq0 hf0 hown hvs hne
      have HV := Lib.hid hv
      have HTAB := Lib.hid htab
      have hBW := hb.size
      clear hv htab hb
      go_wp2_with (at_builtin; refine RowKit.Hid.out ?_)
      refine Lib.hid ?_
      refine wpList_append_own_at _ rfl (.tmp 119) (.tmp 123) 124 rfl w.heap.size 9 i0 (.string ⟨#[]⟩) 1 16 Tryz.underlying124 hi hz0 hz1 hz2 rfl (by decide) v 2 (olds 2) rfl ((HOWN.out.alloc _).alloc _) ⟨wr.heap.size + 1, 0, none⟩ 1 1 [.string ⟨#[92]⟩] rfl rfl ?_ ?_ ?_ ?_ ?_ ?_
      · intro j u hu
        have hj0 : j = 0 := by
          have := (List.getElem?_eq_some_iff.1 hu).1
          simp at this
          omega
        subst hj0
        obtain rfl : Value.string ⟨#[92]⟩ = u := by simpa using hu
        exact cell_of_row _ _ 0 _ _ _ (two_second' wr _ _)
      · intro u hu
        obtain rfl : u = Value.string ⟨#[92]⟩ := by simpa using hu
        rfl
      · decide
      · decide
      · rw [World.size_alloc, World.size_alloc]; omega
      intro v2 w2 hown2 hg2 _ hat2
      obtain ⟨A2, c2, rfl⟩ := own_slice hown2
      have r2 := block_next HROW.out hg2 HNE.out
      have p256 : w2.cell? ⟨w.heap.size + 1, 256, none⟩ = some v := (cell_of_row _ _ 256 _ _ _ r2).trans HV.out
      have p10 : w2.cell? ⟨w.heap.size + 1, 92, none⟩ = some (.slice none 0 0) := (cell_of_row _ _ 92 _ _ _ r2).trans (HTAB.out 92 (by decide))
      have q256 : w2.frozen? ⟨w.heap.size + 1, 256, none⟩ = false := by simp [World.frozen?, r2]
      have q10 : w2.frozen? ⟨w.heap.size + 1, 92, none⟩ = false := by simp [World.frozen?, r2]
      have hlt2 : w.heap.size + 1 < w2.heap.size := (Array.getElem?_eq_some_iff.1 r2).1
      have HG2 := Lib.hid hg2
      have HOWN2 := Lib.hid hown2
      clear r2 hg2 hown2 hat2
      go_wp2
      exact ⟨⟨3, by omega, rfl, binv_next (s := .string ⟨#[92]⟩) (x := 92) (y := 92) HB.out hq HROW.out HOWN.out hsz HTAB.out HOWN2.out HG2.out hBW rfl (by decide) newsK_2 (by decide) (row0 _ _ _) (row1 _ _ _)⟩, by decide⟩
    · go_wp2
      go_ret
      exact ⟨_, rfl, HI.out⟩
end Go.Proofs.YtminbdcabacfbaaGreatDoor.V

namespace Go.Proofs.YtminbdcabacfbaaGreatDoor.V
set_option linter.unusedVariables false
open Go.RowKit
set_option linter.unusedSimpArgs false

/-- The pairs as NewReplacer has laid them. -/
def pairs : Array Value := #[.string ⟨#[92]⟩, .string ⟨#[92, 92]⟩, .string ⟨#[39]⟩, .string ⟨#[92, 39]⟩, .string ⟨#[10]⟩, .string ⟨#[92, 110]⟩]
/-- The six pairs' cells at the head of a row. -/
def Six (w : World) (g : Nat) : Prop := ∀ i u, pairs[i]? = some u → w.cell? ⟨g, i, none⟩ = some u
theorem Six.below {w w1 : World} {g : Nat} (h : Six w g) (hb : Below w.heap.size w w1) : Six w1 g := fun i u hu => cell_below hb (h i u hu)

set_option maxRecDepth 100000 in
set_option maxHeartbeats 2000000 in
theorem buildOnce_calls (r g c : Nat) (x0 x1 x2 x3 : Value) (w : World) (hr : w.heap[r]? = some (.cells #[x0, x1, x2, x3, .slice (some ⟨g, 0, none⟩) 6 c] 168 (0, 0))) (hs : Six w g) :
    Calls Tryz.prog 117 #[.pointer (some ⟨r, 0, none⟩)] w fun e w' => e = .returned (.tuple #[]) ∧ ∃ q w1, BInv w.heap.size q w 3 w1 ∧ w' = (w1.setCell ⟨r, 3, none⟩ (.iface 217 (.pointer (some ⟨q, 0, none⟩)))).setCell ⟨r, 4, none⟩ (.slice none 0 0) := by
  have h4 : w.cell? ⟨r, 4, none⟩ = some (.slice (some ⟨g, 0, none⟩) 6 c) := cell_of_row _ _ 4 _ _ _ hr
  have HR := Lib.hid hr
  have HS := Lib.hid hs
  have hrl : r < w.heap.size := (Array.getElem?_eq_some_iff.1 hr).1
  clear hr hs
  go_enter Tryz.func117, Tryz.ntmps117
  go_wp2_with fail
  refine (build_calls r g c w h4 (HS.out 0 _ rfl) (HS.out 1 _ rfl) (HS.out 2 _ rfl) (HS.out 3 _ rfl) (HS.out 4 _ rfl) (HS.out 5 _ rfl)).mono ?_
  rintro e w1 ⟨q, rfl, hI⟩
  have HI := Lib.hid hI
  obtain ⟨v, C, hb, _⟩ := hI
  have hr1 := (hb.block r hrl).trans HR.out
  have c3 : w1.cell? ⟨r, 3, none⟩ = some x3 := cell_of_row _ _ 3 _ _ _ hr1
  have c4 : w1.cell? ⟨r, 4, none⟩ = some (.slice (some ⟨g, 0, none⟩) 6 c) := cell_of_row _ _ 4 _ _ _ hr1
  have f3 : w1.frozen? ⟨r, 3, none⟩ = false := by simp [World.frozen?, hr1]
  have f4 : w1.frozen? ⟨r, 4, none⟩ = false := by simp [World.frozen?, hr1]
  clear hb hr1 h4
  go_wp2_with fail
  go_end0
  exact ⟨rfl, _, _, HI.out, rfl⟩

/-- What the once's road leaves. -/
def OnceLeft (r B : Nat) (w1 : World) (q : Nat) : World :=
  ((((w1.setCell ⟨r, 3, none⟩ (.iface 217 (.pointer (some ⟨q, 0, none⟩)))).setCell ⟨r, 4, none⟩ (.slice none 0 0)).drew.setCell ⟨r, 0, none⟩ (.int .u32 1)).setCell ⟨r, 1, none⟩ (.int .i32 0))
def OncePost (r : Nat) (w : World) (e : Ending) (w' : World) : Prop := e = .returned (.tuple #[]) ∧ ∃ q w1, BInv w.heap.size q (w.setCell ⟨r, 1, none⟩ (.int .i32 1)) 3 w1 ∧ w' = OnceLeft r w.heap.size w1 q

set_option maxRecDepth 100000 in
set_option maxHeartbeats 2000000 in
theorem slow_calls (r g c : Nat) (w : World) (hr : w.heap[r]? = some (.cells #[.int .u32 0, .int .i32 0, .int .u32 0, .nilIface, .slice (some ⟨g, 0, none⟩) 6 c] 168 (0, 0))) (hs : Six w g) (hne : g ≠ r) :
    Calls Tryz.prog 150 #[.pointer (some ⟨r, 0, none⟩), .func (.func 117) #[.pointer (some ⟨r, 0, none⟩)] #[]] w (OncePost r w) := by
  have h1 : w.cell? ⟨r, 1, none⟩ = some (.int .i32 0) := cell_of_row _ _ 1 _ _ _ hr
  have f1 : w.frozen? ⟨r, 1, none⟩ = false := by simp [World.frozen?, hr]
  have hr1 : (w.setCell ⟨r, 1, none⟩ (.int .i32 1)).heap[r]? = some (.cells #[.int .u32 0, .int .i32 1, .int .u32 0, .nilIface, .slice (some ⟨g, 0, none⟩) 6 c] 168 (0, 0)) := setb_block _ hr
  have hs1 : Six (w.setCell ⟨r, 1, none⟩ (.int .i32 1)) g := fun i u hu => (World.cell?_setCell_other _ _ _ _ (fun e => hne (congrArg Addr.block e).symm)).trans (hs i u hu)
  have hl := run_call_load (P := Tryz.prog) Tryz.func168 (by kernel_rfl) (by kernel_rfl) (by kernel_rfl) .u32 (by kernel_rfl) (w := w.setCell ⟨r, 1, none⟩ (.int .i32 1)) (a := ⟨r, 0, none⟩) (x := 0) (cell_of_row _ _ 0 _ _ _ hr1)
  have hnot : ∀ (x : Bool) (w : World), (Op.unary .not (.bool x)).run Tryz.prog w = .ok (.bool (!x)) w := fun _ _ => rfl
  have HR1 := Lib.hid hr1
  have HS1 := Lib.hid hs1
  have hrl : r < w.heap.size := (Array.getElem?_eq_some_iff.1 hr).1
  clear hr hs hr1 hs1
  go_enter_defers Tryz.func150, Tryz.ntmps150
  go_wp2_with (go_at_call 169; refine (lock_free ⟨r, 1, none⟩ _ (by go_simp) (by go_simp)).mono ?_; rintro e w' ⟨rfl, rfl⟩)
  go_wp2_with (first | (go_at_call 149; go_in) | (go_at_call 117; refine (buildOnce_calls r g c _ _ _ _ _ HR1.out HS1.out).mono ?_; rintro e w' ⟨rfl, q, w1, hI, rfl⟩; have HI := Lib.hid hI; clear hI))
  have hI' := HI.out
  rw [World.size_setCell] at hI'
  have HI := Lib.hid hI'
  clear hI'
  obtain ⟨v, C, hb, _⟩ := HI.out
  have hw1 := (hb.block r hrl).trans HR1.out
  have hM := setb_block (j := 4) (.slice none 0 0) (setb_block (j := 3) (.iface 217 (.pointer (some ⟨q, 0, none⟩))) hw1)
  obtain ⟨M, hMe⟩ : ∃ M, (w1.setCell ⟨r, 3, none⟩ (.iface 217 (.pointer (some ⟨q, 0, none⟩)))).setCell ⟨r, 4, none⟩ (.slice none 0 0) = M := ⟨_, rfl⟩
  have HP : ∀ e w', e = .returned (.tuple #[]) → w' = (M.drew.setCell ⟨r, 0, none⟩ (.int .u32 1)).setCell ⟨r, 1, none⟩ (.int .i32 0) → OncePost r w e w' := fun e w' he hw' => ⟨he, q, w1, HI.out, by rw [hw', ← hMe]; rfl⟩
  rw [hMe] at hM ⊢
  have m0 : M.cell? ⟨r, 0, none⟩ = some (.int .u32 0) := cell_of_row _ _ 0 _ _ _ hM
  have m1 : M.cell? ⟨r, 1, none⟩ = some (.int .i32 1) := cell_of_row _ _ 1 _ _ _ hM
  have n0 : M.frozen? ⟨r, 0, none⟩ = false := by simp [World.frozen?, hM]
  have n1 : M.frozen? ⟨r, 1, none⟩ = false := by simp [World.frozen?, hM]
  clear hMe hM hw1 hb
  refine leaves_cons (f := 171) (args := #[.pointer (some ⟨r, 0, none⟩), .bool true]) (by simp) (by simp [go_sem]) ?_
  refine (store_deferred ⟨r, 0, none⟩ (.int .u32 0) .returning _ m0 n0).mono ?_
  rintro e u' w'' ⟨rfl, rfl, rfl⟩
  refine leaves_cons (f := 170) (args := #[.pointer (some ⟨r, 1, none⟩)]) (by simp [settle]) (by simp [go_sem]) ?_
  refine (unlock_deferred ⟨r, 1, none⟩ _ _ ?_ (by simp [n1])).mono ?_
  · refine (World.cell?_setCell_other _ ⟨r, 0, none⟩ ⟨r, 1, none⟩ _ (by simp)).trans ?_
    rw [World.cell?_drew]
    exact m1
  rintro e u' w'' ⟨rfl, rfl, rfl⟩
  have := HP (.returned (.tuple #[])) _ rfl rfl
  simpa [Leaves, settle, results, Tryz.results150] using this

set_option maxRecDepth 100000 in
set_option maxHeartbeats 2000000 in
theorem do_calls (r g c : Nat) (w : World) (hr : w.heap[r]? = some (.cells #[.int .u32 0, .int .i32 0, .int .u32 0, .nilIface, .slice (some ⟨g, 0, none⟩) 6 c] 168 (0, 0))) (hs : Six w g) (hne : g ≠ r) :
    Calls Tryz.prog 116 #[.pointer (some ⟨r, 0, none⟩), .func (.func 117) #[.pointer (some ⟨r, 0, none⟩)] #[]] w (OncePost r w) := by
  have hl := run_call_load (P := Tryz.prog) Tryz.func168 (by kernel_rfl) (by kernel_rfl) (by kernel_rfl) .u32 (by kernel_rfl) (w := w) (a := ⟨r, 0, none⟩) (x := 0) (cell_of_row _ _ 0 _ _ _ hr)
  have hnot : ∀ (x : Bool) (w : World), (Op.unary .not (.bool x)).run Tryz.prog w = .ok (.bool (!x)) w := fun _ _ => rfl
  have HR := Lib.hid hr
  have HS := Lib.hid hs
  clear hr hs
  go_enter Tryz.func116, Tryz.ntmps116
  go_wp2_with (first | (go_at_call 149; go_in) | (go_at_call 150; refine (slow_calls r g c _ HR.out HS.out hne).mono ?_; rintro e w' ⟨rfl, q, w1, hI, rfl⟩; have HI := Lib.hid hI; clear hI))
  go_end0
  exact ⟨rfl, _, _, HI.out, rfl⟩

/-- The replacer as the once's road leaves it. -/
theorem onceLeft_block {r B q : Nat} {w1 : World} {x0 x1 x2 x3 x4 : Value} (hr : w1.heap[r]? = some (.cells #[x0, x1, x2, x3, x4] 168 (0, 0))) :
    (OnceLeft r B w1 q).heap[r]? = some (.cells #[.int .u32 1, .int .i32 0, x2, .iface 217 (.pointer (some ⟨q, 0, none⟩)), .slice none 0 0] 168 (0, 0)) := by
  unfold OnceLeft
  have h1 := setb_block (j := 4) (.slice none 0 0) (setb_block (j := 3) (.iface 217 (.pointer (some ⟨q, 0, none⟩))) hr)
  exact setb_block (j := 1) (.int .i32 0) (setb_block (W := ((w1.setCell ⟨r, 3, none⟩ (.iface 217 (.pointer (some ⟨q, 0, none⟩)))).setCell ⟨r, 4, none⟩ (.slice none 0 0)).drew) (j := 0) (.int .u32 1) h1)
theorem onceLeft_far {r B q k : Nat} {w1 : World} {x : Obj} (h : w1.heap[k]? = some x) (hne : k ≠ r) : (OnceLeft r B w1 q).heap[k]? = some x := by
  unfold OnceLeft
  exact far_block _ (far_block (W := ((w1.setCell ⟨r, 3, none⟩ (.iface 217 (.pointer (some ⟨q, 0, none⟩)))).setCell ⟨r, 4, none⟩ (.slice none 0 0)).drew) _ (far_block _ (far_block _ h hne) hne) hne) hne
theorem onceLeft_below {r B B' q : Nat} {w w1 : World} (h : Below B' w w1) (hr : B' ≤ r) : Below B' w (OnceLeft r B w1 q) := by
  unfold OnceLeft
  exact ((((h.setCell hr _).setCell hr _).drew).setCell hr _).setCell hr _
end Go.Proofs.YtminbdcabacfbaaGreatDoor.V

namespace Go.Proofs.YtminbdcabacfbaaGreatDoor.V
set_option linter.unusedSimpArgs false
set_option linter.unusedVariables false

def special (c : UInt8) : Bool := c == 10 || c == 39 || c == 92
def escB (c : UInt8) : List UInt8 := if c = 10 then [92, 110] else if c = 39 then [92, 39] else if c = 92 then [92, 92] else [c]
def escL (l : List UInt8) : List UInt8 := l.flatMap escB
theorem escB_plain {c : UInt8} (h : special c = false) : escB c = [c] := by
  unfold special at h
  simp only [Bool.or_eq_false_iff, beq_eq_false_iff_ne] at h
  simp [escB, h.1.1, h.1.2, h.2]
theorem escB_length {c : UInt8} : (escB c).length = if special c = true then 2 else 1 := by
  unfold escB special
  by_cases h1 : c = 10
  · simp [h1]
  · by_cases h2 : c = 39
    · simp [h2]
    · by_cases h3 : c = 92
      · simp [h3]
      · simp [h1, h2, h3]
theorem escL_none {l : List UInt8} (h : l.any special = false) : escL l = l := by
  induction l with
  | nil => rfl
  | cons c l ih =>
    rw [List.any_cons, Bool.or_eq_false_iff] at h
    rw [escL, List.flatMap_cons, escB_plain h.1]
    show c :: escL l = c :: l
    rw [ih h.2]
theorem escL_cons (c : UInt8) (l : List UInt8) : escL (c :: l) = escB c ++ escL l := by rw [escL, List.flatMap_cons]; rfl
theorem escL_snoc (l : List UInt8) (c : UInt8) : escL (l ++ [c]) = escL l ++ escB c := by simp [escL]
def cntS (l : List UInt8) : Nat := (l.filter special).length
theorem escL_length (l : List UInt8) : (escL l).length = l.length + cntS l := by
  induction l with
  | nil => rfl
  | cons c l ih =>
    rw [escL_cons, List.length_append, escB_length, ih, List.length_cons, cntS, cntS, List.filter_cons]
    by_cases h : special c = true
    · rw [if_pos h, if_pos h, List.length_cons]; omega
    · rw [if_neg h, if_neg h]; omega
theorem cntS_zero {l : List UInt8} : cntS l = 0 ↔ l.any special = false := by
  unfold cntS
  rw [List.length_eq_zero_iff, List.filter_eq_nil_iff, List.any_eq_false]
theorem cntS_le (l : List UInt8) : cntS l ≤ l.length := List.length_filter_le _ _
theorem cntS_split (l : List UInt8) : cntS l = Lib.countByte l 10 + Lib.countByte l 39 + Lib.countByte l 92 := by
  induction l with
  | nil => rfl
  | cons c l ih =>
    have h1 : cntS (c :: l) = (if special c = true then 1 else 0) + cntS l := by
      unfold cntS
      rw [List.filter_cons]
      split <;> simp <;> omega
    have h2 : ∀ b : UInt8, Lib.countByte (c :: l) b = (if c = b then 1 else 0) + Lib.countByte l b := by
      intro b
      unfold Lib.countByte
      simp [List.count_cons]
      split <;> simp_all <;> omega
    rw [h1, ih, h2, h2, h2]
    unfold special
    by_cases e1 : c = 10
    · simp [e1]; omega
    · by_cases e2 : c = 39
      · simp [e2]; omega
      · by_cases e3 : c = 92
        · simp [e3]; omega
        · simp [e1, e2, e3]
/-- Bytes as they lie in cells. -/
def bytesV (l : List UInt8) : List Value := l.map fun b => .int .u8 (b.toNat : Int)
theorem bytesV_length (l : List UInt8) : (bytesV l).length = l.length := by simp [bytesV]
theorem bytesV_append (a b : List UInt8) : bytesV (a ++ b) = bytesV a ++ bytesV b := by simp [bytesV]
/-- The buffer behind some bytes of it. -/
def bufL (pre : List UInt8) (N : Nat) : List Value := bytesV pre ++ List.replicate (N - pre.length) (.int .u8 0)
theorem bufL_length {pre : List UInt8} {N : Nat} (h : pre.length ≤ N) : (bufL pre N).length = N := by
  simp [bufL, bytesV_length]
  omega
theorem bufL_set {pre : List UInt8} {N : Nat} (c : UInt8) (h : pre.length < N) : (bufL pre N).set pre.length (.int .u8 (c.toNat : Int)) = bufL (pre ++ [c]) N := by
  unfold bufL
  obtain ⟨m, hm⟩ : ∃ m, N - pre.length = m + 1 := ⟨N - pre.length - 1, by omega⟩
  rw [List.length_append, List.length_singleton, hm, show N - (pre.length + 1) = m by omega, List.replicate_succ, List.set_append_right _ _ (by rw [bytesV_length]; exact Nat.le_refl _), bytesV_length, Nat.sub_self, bytesV_append]
  simp [bytesV]
theorem bufL_splice {pre news : List UInt8} {N : Nat} (h : pre.length + news.length ≤ N) : splice (bufL pre N) pre.length (bytesV news) = bufL (pre ++ news) N := by
  unfold splice bufL
  have h1 : (bytesV pre).length = pre.length := bytesV_length pre
  rw [List.take_append_of_le_length (by omega), List.take_of_length_le (by omega), bytesV_append, List.append_assoc]
  congr 2
  rw [List.drop_append, List.drop_of_length_le (by rw [bytesV_length]; omega), List.nil_append, List.drop_replicate, List.length_append, bytesV_length, bytesV_length]
  congr 1
  omega
theorem bufL_whole (l : List UInt8) : bufL l l.length = bytesV l := by simp [bufL]
theorem bufL_none (N : Nat) : bufL [] N = List.replicate N (.int .u8 0) := by simp [bufL, bytesV]
theorem escL_take_succ {l : List UInt8} {i : Nat} (h : i < l.length) : escL (l.take (i + 1)) = escL (l.take i) ++ escB l[i] := by
  rw [List.take_succ_eq_append_getElem h, escL_snoc]
theorem escL_take_le (l : List UInt8) (i : Nat) : (escL (l.take i)).length ≤ (escL l).length := by
  conv => rhs; rw [← List.take_append_drop i l]
  rw [escL, escL, List.flatMap_append, List.length_append]
  omega
theorem cntS_take_succ {l : List UInt8} {i : Nat} (h : i < l.length) : cntS (l.take (i + 1)) = cntS (l.take i) + if special l[i] = true then 1 else 0 := by
  unfold cntS
  rw [List.take_succ_eq_append_getElem h, List.filter_append, List.length_append, List.filter_cons]
  split <;> simp
theorem cntS_take_le (l : List UInt8) (i : Nat) : cntS (l.take i) ≤ i := Nat.le_trans (cntS_le _) (List.length_take_le _ _)
end Go.Proofs.YtminbdcabacfbaaGreatDoor.V

namespace Go.Proofs.YtminbdcabacfbaaGreatDoor.V
set_option linter.unusedVariables false
open Go.RowKit
set_option linter.unusedSimpArgs false

/-- The table, read. -/
structure Rep (W : World) (q : Nat) (A : Option Addr) (c : Nat) (C : Array Value) : Prop where
  block : W.heap[q]? = some (Obj.cells C 216 (0, 0))
  last : C[256]? = some (.slice A 3 c)
  tab : Tab W C 3
  olds : ∃ (a : Nat) (cur : Array Value) (m : Nat × Nat), A = some ⟨a, 0, none⟩ ∧ W.heap[a]? = some (Obj.cells cur 9 m) ∧ cur[0]? = some (.string ⟨#[10]⟩) ∧ cur[1]? = some (.string ⟨#[39]⟩) ∧ cur[2]? = some (.string ⟨#[92]⟩)

/-- The table at a byte. -/
def TabAt (W : World) (C : Array Value) (c : UInt8) : Prop := (special c = true → ∃ (a cap : Nat) (D : Array Value) (m : Nat × Nat) (x y : UInt8), C[c.toNat]? = some (.slice (some ⟨a, 0, none⟩) 2 cap) ∧ W.heap[a]? = some (Obj.cells D 5 m) ∧ D[0]? = some (.int .u8 (x.toNat : Int)) ∧ D[1]? = some (.int .u8 (y.toNat : Int)) ∧ escB c = [x, y]) ∧ (special c = false → C[c.toNat]? = some (.slice none 0 0))
theorem tab_at {W : World} {C : Array Value} (h : Tab W C 3) (c : UInt8) : TabAt W C c := by
  have hc := c.toNat_lt
  have ht := h c.toNat (by omega)
  constructor
  · intro hs
    unfold special at hs
    simp only [Bool.or_eq_true, beq_iff_eq] at hs
    rcases hs with (rfl | rfl) | rfl
    · obtain ⟨a, cap, D, m, h1, h2, h3, h4⟩ := (h 10 (by decide) : ∃ (a cap : Nat) (D : Array Value) (m : Nat × Nat), C[10]? = some (.slice (some ⟨a, 0, none⟩) 2 cap) ∧ W.heap[a]? = some (.cells D 5 m) ∧ D[0]? = some (.int .u8 92) ∧ D[1]? = some (.int .u8 110))
      exact ⟨a, cap, D, m, 92, 110, h1, h2, h3, h4, rfl⟩
    · obtain ⟨a, cap, D, m, h1, h2, h3, h4⟩ := (h 39 (by decide) : ∃ (a cap : Nat) (D : Array Value) (m : Nat × Nat), C[39]? = some (.slice (some ⟨a, 0, none⟩) 2 cap) ∧ W.heap[a]? = some (.cells D 5 m) ∧ D[0]? = some (.int .u8 92) ∧ D[1]? = some (.int .u8 39))
      exact ⟨a, cap, D, m, 92, 39, h1, h2, h3, h4, rfl⟩
    · obtain ⟨a, cap, D, m, h1, h2, h3, h4⟩ := (h 92 (by decide) : ∃ (a cap : Nat) (D : Array Value) (m : Nat × Nat), C[92]? = some (.slice (some ⟨a, 0, none⟩) 2 cap) ∧ W.heap[a]? = some (.cells D 5 m) ∧ D[0]? = some (.int .u8 92) ∧ D[1]? = some (.int .u8 92))
      exact ⟨a, cap, D, m, 92, 92, h1, h2, h3, h4, rfl⟩
  · intro hs
    have hn : newsK 3 c.toNat = none := by
      unfold special at hs
      simp only [Bool.or_eq_false_iff, beq_eq_false_iff_ne] at hs
      have e : ∀ n : Nat, n < 256 → c.toNat = n → c = UInt8.ofNat n := fun n _ hcn => by rw [← hcn]; simp
      have h1 : c.toNat ≠ 10 := fun hh => hs.1.1 (e 10 (by decide) hh)
      have h2 : c.toNat ≠ 39 := fun hh => hs.1.2 (e 39 (by decide) hh)
      have h3 : c.toNat ≠ 92 := fun hh => hs.2 (e 92 (by decide) hh)
      simp [newsK, h1, h2, h3]
    rw [hn] at ht
    exact ht
/-- How many are counted behind k rounds. -/
def part (a b c : Nat) : Nat → Nat
  | 0 => 0
  | 1 => a
  | 2 => a + b
  | _ => a + b + c

theorem sizeByte : (Tryz.prog.info? 5).map (·.size) = some 1 := by kernel_rfl
theorem two_cells {W : World} {a : Nat} {x y : UInt8} (h0 : W.cell? ⟨a, 0, none⟩ = some (.int .u8 (x.toNat : Int))) (h1 : W.cell? ⟨a, 1, none⟩ = some (.int .u8 (y.toNat : Int))) (j : Nat) (v : Value) (hv : (bytesV [x, y])[j]? = some v) : W.cell? ((⟨a, 0, none⟩ : Addr).add j) = some v := by
  rcases j with _ | _ | j
  · obtain rfl : Value.int .u8 (x.toNat : Int) = v := by simpa [bytesV] using hv
    exact h0
  · obtain rfl : Value.int .u8 (y.toNat : Int) = v := by simpa [bytesV] using hv
    exact h1
  · simp [bytesV] at hv
theorem bytesV_one {l : List UInt8} {v : Value} (hv : v ∈ bytesV l) : v.oneCell' = true := by
  obtain ⟨b, _, rfl⟩ := List.mem_map.1 hv
  rfl
theorem infoByte : (Tryz.prog.info? 5).map (fun i => (i.zero, i.size, i.bytes)) = some (some (.int .u8 0), 1, 1) := by kernel_rfl
set_option maxRecDepth 100000 in
set_option maxHeartbeats 4000000 in
theorem replace_calls (q : Nat) (A : Option Addr) (c : Nat) (C : Array Value) (s : ByteArray) (w : World) (hR : Rep w q A c C) (hs : s.size ≤ 1099511627776) :
    Calls Tryz.prog 239 #[.pointer (some ⟨q, 0, none⟩), .string s] w fun e w' => e = .returned (.string ⟨(escL s.data.toList).toArray⟩) ∧ Below w.heap.size w w' := by
  have HR := Lib.hid hR
  have t256 : w.cell? ⟨q, 256, none⟩ = some (.slice A 3 c) := (cell_of_row _ _ 256 _ _ _ hR.block).trans hR.last
  clear hR
  go_enter Tryz.func239, Tryz.ntmps239
  go_upto_if 26 with fail
  go_cut [5, 6] (fun s5 s6 wx => ∃ b, s5 = .int .i64 (((escL s.data.toList).length : Nat) : Int) ∧ s6 = .bool b ∧ b = s.data.toList.any special ∧ Below w.heap.size w wx)
  case first =>
    obtain ⟨a, cur, mo, hA, hko, p0, p1, p2⟩ := HR.out.olds
    have o0 : w.cell? ⟨a, 0, none⟩ = some (.string ⟨#[10]⟩) := (cell_of_row _ _ 0 _ _ _ hko).trans p0
    have o1 : w.cell? ⟨a, 1, none⟩ = some (.string ⟨#[39]⟩) := (cell_of_row _ _ 1 _ _ _ hko).trans p1
    have o2 : w.cell? ⟨a, 2, none⟩ = some (.string ⟨#[92]⟩) := (cell_of_row _ _ 2 _ _ _ hko).trans p2
    clear hko p0 p1 p2
    subst hA
    have O0 := Lib.hid o0
    have O1 := Lib.hid o1
    have O2 := Lib.hid o2
    clear o0 o1 o2
    obtain ⟨n10, hn10⟩ : ∃ n, n = Lib.countByte s.data.toList 10 := ⟨_, rfl⟩
    obtain ⟨n39, hn39⟩ : ∃ n, n = Lib.countByte s.data.toList 39 := ⟨_, rfl⟩
    obtain ⟨n92, hn92⟩ : ∃ n, n = Lib.countByte s.data.toList 92 := ⟨_, rfl⟩
    have hsum : n10 + n39 + n92 ≤ s.size := by
      have := cntS_split s.data.toList
      have := cntS_le s.data.toList
      have hl : s.data.toList.length = s.size := by simp
      omega
    obtain ⟨a10, cap10, D10, m10, h10c, h10b, h10x, h10y⟩ := (HR.out.tab 10 (by decide) : ∃ (a cap : Nat) (D : Array Value) (m : Nat × Nat), C[10]? = some (.slice (some ⟨a, 0, none⟩) 2 cap) ∧ w.heap[a]? = some (.cells D 5 m) ∧ D[0]? = some (.int .u8 92) ∧ D[1]? = some (.int .u8 110))
    obtain ⟨a39, cap39, D39, m39, h39c, h39b, h39x, h39y⟩ := (HR.out.tab 39 (by decide) : ∃ (a cap : Nat) (D : Array Value) (m : Nat × Nat), C[39]? = some (.slice (some ⟨a, 0, none⟩) 2 cap) ∧ w.heap[a]? = some (.cells D 5 m) ∧ D[0]? = some (.int .u8 92) ∧ D[1]? = some (.int .u8 39))
    obtain ⟨a92, cap92, D92, m92, h92c, h92b, h92x, h92y⟩ := (HR.out.tab 92 (by decide) : ∃ (a cap : Nat) (D : Array Value) (m : Nat × Nat), C[92]? = some (.slice (some ⟨a, 0, none⟩) 2 cap) ∧ w.heap[a]? = some (.cells D 5 m) ∧ D[0]? = some (.int .u8 92) ∧ D[1]? = some (.int .u8 92))
    clear h10b h10x h10y h39b h39x h39y h92b h92x h92y
    have e10 : ∀ h, ((⟨#[10]⟩ : ByteArray)[0]'h).toNat = 10 := fun _ => rfl
    have e39 : ∀ h, ((⟨#[39]⟩ : ByteArray)[0]'h).toNat = 39 := fun _ => rfl
    have e92 : ∀ h, ((⟨#[92]⟩ : ByteArray)[0]'h).toNat = 92 := fun _ => rfl
    have H10 := Lib.hid hn10
    have H39 := Lib.hid hn39
    have H92 := Lib.hid hn92
    clear hn10 hn39 hn92
    by_cases h24 : 24 ≤ s.size
    · have h24d : decide ((24 : Int) ≤ (s.size : Int)) = true := decide_eq_true (by omega)
      rw [h24d]
      go_wp2_with fail
      go_loopw [5, 6, 8, 9, 32] (fun n b _ _ i wr => ∃ (k p : Nat) (bb : Bool), k ≤ 3 ∧ i = .int .i64 k ∧ n = .int .i64 ((s.size : Int) + (p : Int)) ∧ b = .bool bb ∧ p = part n10 n39 n92 k ∧ bb = decide (0 < p) ∧ Below w.heap.size w wr) (fun _ _ _ _ i _ => 3 - (intOf i).toNat)
      case atStart => exact ⟨0, 0, false, by omega, rfl, by simp, rfl, rfl, rfl, Below.refl _ _⟩
      case round =>
        obtain ⟨k, p, bb, hk, rfl, rfl, rfl, hp, hbb, hb⟩ := hrel
        have hkk : k = 0 ∨ k = 1 ∨ k = 2 ∨ k = 3 := by omega
        rcases hkk with rfl | rfl | rfl | rfl
        · have x0 := cell_below hb O0.out
          have y0 := cell_below hb ((cell_of_row _ _ 10 _ _ _ HR.out.block).trans h10c)
          have HB := Lib.hid hb
          have HP := Lib.hid hp
          have HBB := Lib.hid hbb
          clear hb hp hbb
          by_cases hz : n10 = 0
          · have hzd : ((n10 : Int) != 0) = false := by rw [hz]; rfl
            have HZ := Lib.hid hz
            clear hz
            go_wp2_with (go_at_call 241; refine (Tryz.strings_Count_one s 10 _).mono ?_; rintro e w' ⟨rfl, rfl⟩; rw [← H10.out])
            go_roundw
            case rel => exact ⟨1, p, bb, by omega, rfl, rfl, rfl, by have h1 := HP.out; have h2 := HZ.out; simp only [part] at h1 ⊢; omega, HBB.out, HB.out⟩
            case measure => simp [intOf]
          · have hzd : ((n10 : Int) != 0) = true := by simpa using hz
            have hpb : p + n10 ≤ s.size := by rw [HP.out]; simp only [part]; omega
            have hp0 : p + n10 = part n10 n39 n92 1 := by rw [HP.out]; simp [part]
            have HP0 := Lib.hid hp0
            have hpos : 0 < n10 := by omega
            have HPOS := Lib.hid hpos
            have w1 : IntKind.i64.wrap ((n10 : Int) * 1) = (n10 : Int) := by rw [Int.mul_one]; exact IntWalk.i64_in _ (by omega)
            have w1' : IntKind.i64.wrap (n10 : Int) = (n10 : Int) := IntWalk.i64_in _ (by omega)
            have w2 : IntKind.i64.wrap ((s.size : Int) + (p : Int) + (n10 : Int)) = (s.size : Int) + (p : Int) + (n10 : Int) := IntWalk.i64_in _ (by omega)
            clear hz hp0 hpos
            go_wp2_with (go_at_call 241; refine (Tryz.strings_Count_one s 10 _).mono ?_; rintro e w' ⟨rfl, rfl⟩; rw [← H10.out])
            go_quiet (fail)
            clear w1 w1' w2
            go_wp2_with fail
            go_roundw
            case rel => exact ⟨1, p + n10, true, by omega, rfl, by simp [Int.add_assoc], rfl, HP0.out, by have := HPOS.out; simp; omega, HB.out.trans ⟨rfl, rfl, rfl, Nat.le_refl _, fun _ _ => rfl⟩⟩
            case measure => simp [intOf]
        · have x0 := cell_below hb O1.out
          have y0 := cell_below hb ((cell_of_row _ _ 39 _ _ _ HR.out.block).trans h39c)
          have HB := Lib.hid hb
          have HP := Lib.hid hp
          have HBB := Lib.hid hbb
          clear hb hp hbb
          by_cases hz : n39 = 0
          · have hzd : ((n39 : Int) != 0) = false := by rw [hz]; rfl
            have HZ := Lib.hid hz
            clear hz
            go_wp2_with (go_at_call 241; refine (Tryz.strings_Count_one s 39 _).mono ?_; rintro e w' ⟨rfl, rfl⟩; rw [← H39.out])
            go_roundw
            case rel => exact ⟨2, p, bb, by omega, rfl, rfl, rfl, by have h1 := HP.out; have h2 := HZ.out; simp only [part] at h1 ⊢; omega, HBB.out, HB.out⟩
            case measure => simp [intOf]
          · have hzd : ((n39 : Int) != 0) = true := by simpa using hz
            have hpb : p + n39 ≤ s.size := by rw [HP.out]; simp only [part]; omega
            have hp0 : p + n39 = part n10 n39 n92 2 := by rw [HP.out]; simp [part]
            have HP0 := Lib.hid hp0
            have hpos : 0 < n39 := by omega
            have HPOS := Lib.hid hpos
            have w1 : IntKind.i64.wrap ((n39 : Int) * 1) = (n39 : Int) := by rw [Int.mul_one]; exact IntWalk.i64_in _ (by omega)
            have w1' : IntKind.i64.wrap (n39 : Int) = (n39 : Int) := IntWalk.i64_in _ (by omega)
            have w2 : IntKind.i64.wrap ((s.size : Int) + (p : Int) + (n39 : Int)) = (s.size : Int) + (p : Int) + (n39 : Int) := IntWalk.i64_in _ (by omega)
            clear hz hp0 hpos
            go_wp2_with (go_at_call 241; refine (Tryz.strings_Count_one s 39 _).mono ?_; rintro e w' ⟨rfl, rfl⟩; rw [← H39.out])
            go_quiet (fail)
            clear w1 w1' w2
            go_wp2_with fail
            go_roundw
            case rel => exact ⟨2, p + n39, true, by omega, rfl, by simp [Int.add_assoc], rfl, HP0.out, by have := HPOS.out; simp; omega, HB.out.trans ⟨rfl, rfl, rfl, Nat.le_refl _, fun _ _ => rfl⟩⟩
            case measure => simp [intOf]
        · have x0 := cell_below hb O2.out
          have y0 := cell_below hb ((cell_of_row _ _ 92 _ _ _ HR.out.block).trans h92c)
          have HB := Lib.hid hb
          have HP := Lib.hid hp
          have HBB := Lib.hid hbb
          clear hb hp hbb
          by_cases hz : n92 = 0
          · have hzd : ((n92 : Int) != 0) = false := by rw [hz]; rfl
            have HZ := Lib.hid hz
            clear hz
            go_wp2_with (go_at_call 241; refine (Tryz.strings_Count_one s 92 _).mono ?_; rintro e w' ⟨rfl, rfl⟩; rw [← H92.out])
            go_roundw
            case rel => exact ⟨3, p, bb, by omega, rfl, rfl, rfl, by have h1 := HP.out; have h2 := HZ.out; simp only [part] at h1 ⊢; omega, HBB.out, HB.out⟩
            case measure => simp [intOf]
          · have hzd : ((n92 : Int) != 0) = true := by simpa using hz
            have hpb : p + n92 ≤ s.size := by rw [HP.out]; simp only [part]; omega
            have hp0 : p + n92 = part n10 n39 n92 3 := by rw [HP.out]; simp [part]
            have HP0 := Lib.hid hp0
            have hpos : 0 < n92 := by omega
            have HPOS := Lib.hid hpos
            have w1 : IntKind.i64.wrap ((n92 : Int) * 1) = (n92 : Int) := by rw [Int.mul_one]; exact IntWalk.i64_in _ (by omega)
            have w1' : IntKind.i64.wrap (n92 : Int) = (n92 : Int) := IntWalk.i64_in _ (by omega)
            have w2 : IntKind.i64.wrap ((s.size : Int) + (p : Int) + (n92 : Int)) = (s.size : Int) + (p : Int) + (n92 : Int) := IntWalk.i64_in _ (by omega)
            clear hz hp0 hpos
            go_wp2_with (go_at_call 241; refine (Tryz.strings_Count_one s 92 _).mono ?_; rintro e w' ⟨rfl, rfl⟩; rw [← H92.out])
            go_quiet (fail)
            clear w1 w1' w2
            go_wp2_with fail
            go_roundw
            case rel => exact ⟨3, p + n92, true, by omega, rfl, by simp [Int.add_assoc], rfl, HP0.out, by have := HPOS.out; simp; omega, HB.out.trans ⟨rfl, rfl, rfl, Nat.le_refl _, fun _ _ => rfl⟩⟩
            case measure => simp [intOf]
        · have HB := Lib.hid hb
          have HP := Lib.hid hp
          have HBB := Lib.hid hbb
          clear hb hp hbb
          go_wp2_with fail
          go_meet
          refine ⟨bb, ?_, rfl, ?_, HB.out⟩
          · have h1 := escL_length s.data.toList
            have h2 := cntS_split s.data.toList
            rw [← H10.out, ← H39.out, ← H92.out] at h2
            have hl : s.data.toList.length = s.size := by simp
            have h3 : p = n10 + n39 + n92 := HP.out
            rw [h1, hl, h2, h3]
            simp
          · have h2 := cntS_split s.data.toList
            rw [← H10.out, ← H39.out, ← H92.out] at h2
            have h3 : p = n10 + n39 + n92 := HP.out
            rw [HBB.out, h3, ← h2]
            cases h4 : s.data.toList.any special with
            | false => rw [cntS_zero.2 h4]; rfl
            | true =>
              have : cntS s.data.toList ≠ 0 := fun h => by rw [cntS_zero.1 h] at h4; cases h4
              simp; omega
    · have h24d : decide ((24 : Int) ≤ (s.size : Int)) = false := decide_eq_false (by omega)
      rw [h24d]
      have hsn := fun (w : World) (a : Option Addr) (n c n' c' : Nat) => run_neq_slice_nil_any (P := Tryz.prog) w 82 5 a n c n' c' Tryz.underlying82
      go_wp2_with fail
      go_loopw [5, 6, 10, 11] (fun n b i _ wr => ∃ (k p : Nat) (bb : Bool), k ≤ s.size ∧ i = .int .i64 k ∧ n = .int .i64 ((s.size : Int) + (p : Int)) ∧ b = .bool bb ∧ p = cntS (s.data.toList.take k) ∧ bb = decide (0 < p) ∧ Below w.heap.size w wr) (fun _ _ i _ _ => s.size - (intOf i).toNat)
      case atStart => exact ⟨0, 0, false, by omega, rfl, by simp, rfl, rfl, rfl, Below.refl _ _⟩
      case round =>
        obtain ⟨k, p, bb, hk, rfl, rfl, rfl, hp, hbb, hb⟩ := hrel
        have HB := Lib.hid hb
        have HP := Lib.hid hp
        have HBB := Lib.hid hbb
        have hpk : p ≤ k := by rw [hp]; exact cntS_take_le _ _
        clear hp hbb
        by_cases hlt : k < s.size
        · have hl : k < s.data.toList.length := by simpa using hlt
          have hbyte : s.data.toList[k] = (s[k]'hlt) := by simp [ByteArray.getElem_eq_getElem_data]
          have hcs := cntS_take_succ hl
          rw [hbyte] at hcs
          have hT := tab_at HR.out.tab (s[k]'hlt)
          have hcl := (s[k]'hlt).toNat_lt
          have hci : (((s[k]'hlt).toNat : Nat) : Int) < 256 := by omega
          cases hsp : special (s[k]'hlt) with
          | true =>
            obtain ⟨a, cap, D, m, x, y, h1, _⟩ := hT.1 hsp
            have y0 := cell_below hb ((cell_of_row _ _ _ _ _ _ HR.out.block).trans h1)
            rw [hsp, if_pos rfl] at hcs
            have HCS := Lib.hid hcs
            clear hb hcs hT hsp h1 hbyte hl
            go_wp2_with fail
            go_roundw
            case rel => exact ⟨k + 1, p + 1, true, by omega, by go_num, by simp [Int.add_assoc], rfl, by rw [HCS.out, HP.out], by simp, HB.out⟩
            case measure => simp [intOf]; omega
          | false =>
            have y0 := cell_below hb ((cell_of_row _ _ _ _ _ _ HR.out.block).trans (hT.2 hsp))
            rw [hsp, if_neg (by simp)] at hcs
            have HCS := Lib.hid hcs
            clear hb hcs hT hsp hbyte hl
            go_wp2_with fail
            go_roundw
            case rel => exact ⟨k + 1, p, bb, by omega, by go_num, rfl, rfl, by rw [HCS.out, HP.out]; rfl, HBB.out, HB.out⟩
            case measure => simp [intOf]; omega
        · have hkk : k = s.size := by omega
          have HKK := Lib.hid hkk
          clear hkk hb
          go_wp2_with fail
          go_meet
          have hl : s.data.toList.length = s.size := by simp
          have hpt : p = cntS s.data.toList := by
            rw [HP.out, HKK.out, ← hl, List.take_length]
          refine ⟨bb, ?_, rfl, ?_, HB.out⟩
          · rw [escL_length, hl, hpt]
            simp
          · rw [HBB.out, hpt]
            cases h4 : s.data.toList.any special with
            | false => rw [cntS_zero.2 h4]; rfl
            | true =>
              have : cntS s.data.toList ≠ 0 := fun h => by rw [cntS_zero.1 h] at h4; cases h4
              simp; omega
  case rest =>
    obtain ⟨b, rfl, rfl, hb, hbw⟩ := hcut
    have HBS := Lib.hid hb
    clear hb
    cases hbb : b with
    | false =>
      have he : escL s.data.toList = s.data.toList := escL_none (by rw [← HBS.out]; exact hbb)
      have HE := Lib.hid he
      clear he hbb
      go_wp2_with fail
      go_ret
      exact ⟨by rw [HE.out]; rfl, hbw⟩
    | true =>
      clear hbb
      obtain ⟨N, hN⟩ : ∃ N, N = (escL s.data.toList).length := ⟨_, rfl⟩
      have hNs : N ≤ 2199023255552 := by
        have h1 := escL_length s.data.toList
        have h2 := cntS_le s.data.toList
        have hl : s.data.toList.length = s.size := by simp
        omega
      have HN := Lib.hid hN
      rw [← hN]
      clear hN
      obtain ⟨i0, hi, hz0, hz1, hz2⟩ := info_parts infoByte
      have hmk := fun W => run_make (P := Tryz.prog) W 82 5 i0 (.int .u8 0) Tryz.underlying82 hi hz0 .i64 .i64 (N : Int) (N : Int) (by omega) (by omega) (by rw [hz2]; omega) (by omega)
      rw [hz1] at hmk
      have hsn := fun (w : World) (a : Option Addr) (n c n' c' : Nat) => run_neq_slice_nil_any (P := Tryz.prog) w 82 5 a n c n' c' Tryz.underlying82
      have HBW := Lib.hid hbw
      clear hbw
      go_wp2_with fail
      have hbl : (wc.alloc (.cells (madeCells #[Value.int IntKind.u8 0] N) 5)).heap[wc.heap.size]? = some (Obj.cells (bufL [] N).toArray 5 (0, 0)) := by
        rw [heap_alloc_new]
        congr 2
        rw [bufL_none, ← toList_madeCells_one]
      have hbB : Below w.heap.size w (wc.alloc (.cells (madeCells #[Value.int IntKind.u8 0] N) 5)) := HBW.out.alloc HBW.out.size _
      have hwb := HBW.out.size
      go_loopw [13, 14, 15] (fun j i _ wr => ∃ k p : Nat, k ≤ s.size ∧ i = .int .i64 k ∧ j = .int .i64 p ∧ p = (escL (s.data.toList.take k)).length ∧ wr.heap[wc.heap.size]? = some (Obj.cells (bufL (escL (s.data.toList.take k)) N).toArray 5 (0, 0)) ∧ Below w.heap.size w wr) (fun _ i _ _ => s.size - (intOf i).toNat)
      case atStart => exact ⟨0, 0, by omega, rfl, rfl, rfl, hbl, hbB⟩
      case round =>
        obtain ⟨k, p, hk, rfl, rfl, hp, hblk, hb⟩ := hrel
        clear hbl hbB hmk
        have HB := Lib.hid hb
        have HP := Lib.hid hp
        have HBL := Lib.hid hblk
        have hpN : p ≤ N := by rw [hp, HN.out]; exact escL_take_le _ _
        by_cases hlt : k < s.size
        · have hl : k < s.data.toList.length := by simpa using hlt
          have hbyte : s.data.toList[k] = (s[k]'hlt) := by simp [ByteArray.getElem_eq_getElem_data]
          have hes := escL_take_succ hl
          rw [hbyte] at hes
          have hle : (escL (s.data.toList.take (k + 1))).length ≤ N := by rw [HN.out]; exact escL_take_le _ _
          have hT := tab_at HR.out.tab (s[k]'hlt)
          have hcl := (s[k]'hlt).toNat_lt
          have hci : (((s[k]'hlt).toNat : Nat) : Int) < 256 := by omega
          cases hsp : special (s[k]'hlt) with
          | true =>
            obtain ⟨a, cap, D, m, x, y, h1, h2, h3, h4, h5⟩ := hT.1 hsp
            have y0 := cell_below hb ((cell_of_row _ _ _ _ _ _ HR.out.block).trans h1)
            have g0 : wr.cell? ⟨a, 0, none⟩ = some (.int .u8 (x.toNat : Int)) := cell_below hb ((cell_of_row _ _ 0 _ _ _ h2).trans h3)
            have g1 : wr.cell? ⟨a, 1, none⟩ = some (.int .u8 (y.toNat : Int)) := cell_below hb ((cell_of_row _ _ 1 _ _ _ h2).trans h4)
            have Y0 := Lib.hid ((cell_of_row w q _ _ _ _ HR.out.block).trans h1)
            rw [h5] at hes
            have hlN : p + 2 ≤ N := by rw [hes, List.length_append, ← hp] at hle; exact hle
            have hne : N ≠ p := by omega
            have hpi : (p : Int) ≤ (N : Int) := by omega
            have hp0 : (0 : Int) ≤ (p : Int) := by omega
            have HES := Lib.hid hes
            have G0 := Lib.hid g0
            have G1 := Lib.hid g1
            have w2 : IntKind.i64.wrap ((p : Int) + 2) = (p : Int) + 2 := IntWalk.i64_in _ (by omega)
            have HW2 := Lib.hid w2
            have HSP := Lib.hid (bufL_splice (pre := escL (s.data.toList.take k)) (news := [x, y]) (N := N) (by rw [← hp]; exact hlN))
            clear hes hT hsp hbyte hl hp hblk hle h1 h2 h3 h4 h5 g0 g1 w2
            go_wp2_with fail
            go_region_held3 (fun W => W.cell? ⟨q, (s[k]'hlt).toNat, none⟩ = some (.slice (some ⟨a, 0, none⟩) 2 cap) ∧ Below w.heap.size w W)
              ((go_split_ands; refine ⟨?_, ?_⟩; (focus (first | with_reducible assumption | (refine cell_below (w := w) ?_ Y0.out; (repeat (first | with_reducible assumption | with_reducible exact Below.refl _ _ | with_reducible apply Below.drew))))); (focus (repeat (first | with_reducible assumption | with_reducible exact Below.refl _ _ | with_reducible apply Below.drew)))))
              ((refine step_copy_splice (by rfl) (.tmp 105) (.tmp 111) 82 82 (by rfl) 5 Tryz.underlying82 sizeByte (some ⟨wc.heap.size, p, none⟩) (some ⟨a, 0, none⟩) (N - p) (N - p) 2 cap (by rfl) (by rfl) wc.heap.size p (bufL (escL (s.data.toList.take k)) N) 5 ?_ (bytesV [x, y]) ?_ ?_ ?_ ?_ w.heap.size w ?_ hwb ?_; exact HBL.out; (focus (show 2 = Nat.min 2 (N - p); exact (Nat.min_eq_left (by omega)).symm)); (focus (intro _; refine ⟨rfl, ⟨a, 0, none⟩, rfl, ?_⟩; intro j v hv; exact two_cells G0.out G1.out j v hv)); (focus (rw [bufL_length (by rw [← HP.out]; exact hpN)]; exact hlN)); (focus (intro v hv; exact bytesV_one hv)); (focus (repeat (first | with_reducible assumption | with_reducible exact Below.refl _ _ | with_reducible apply Below.drew))); intro W2 hg2 hb2; have HG2 := Lib.hid hg2; clear hg2))
            go_wp2_with fail
            go_roundw
            case rel =>
              refine ⟨k + 1, p + 2, by omega, by go_num, ?_, by rw [HES.out, List.length_append, ← HP.out]; rfl, ?_, by assumption⟩
              · rw [bytesV_length]
                show Value.int IntKind.i64 (IntKind.i64.wrap ((p : Int) + 2)) = _
                rw [HW2.out]
                rfl
              · rw [HES.out, ← HSP.out, ← HP.out]
                exact HG2.out
            case measure => simp [intOf]; omega
          | false =>
            have y0 := cell_below hb ((cell_of_row _ _ _ _ _ _ HR.out.block).trans (hT.2 hsp))
            rw [escB_plain hsp] at hes
            have hlN : p < N := by rw [hes, List.length_append, List.length_singleton, ← hp] at hle; omega
            have b0 : wr.cell? ⟨wc.heap.size, p, none⟩ = some (.int .u8 0) := by
              rw [cell_of_row _ _ p _ _ _ hblk, hp, List.getElem?_toArray, bufL, List.getElem?_append_right (by rw [bytesV_length]; exact Nat.le_refl _), bytesV_length, Nat.sub_self, List.getElem?_replicate, if_pos (by omega)]
            have b1 : wr.frozen? ⟨wc.heap.size, p, none⟩ = false := by simp [World.frozen?, hblk]
            have hpi : (p : Int) < (N : Int) := by omega
            have HES := Lib.hid hes
            have HNB := Lib.hid (show (wr.setCell ⟨wc.heap.size, p, none⟩ (.int .u8 ((s[k]'hlt).toNat : Int))).heap[wc.heap.size]? = some (Obj.cells (bufL (escL (s.data.toList.take (k + 1))) N).toArray 5 (0, 0)) from by
              rw [setb_block _ hblk, hes]
              congr 2
              have := bufL_set (N := N) (s[k]'hlt) (by rw [← hp]; exact hlN : (escL (s.data.toList.take k)).length < N)
              rw [← hp] at this
              rw [← this]
              simp)
            clear hb hes hT hsp hbyte hl hp hblk hle
            go_wp2_with fail
            go_roundw
            case rel => exact ⟨k + 1, p + 1, by omega, by go_num, by go_num, by rw [HES.out, List.length_append, ← HP.out]; rfl, HNB.out, HB.out.setCell hwb _⟩
            case measure => simp [intOf]; omega
        · have hkk : k = s.size := by omega
          have HKK := Lib.hid hkk
          clear hkk hb
          have hall : s.data.toList.take k = s.data.toList := by
            have hl : s.data.toList.length = s.size := by simp
            rw [HKK.out, ← hl, List.take_length]
          rw [hall, HN.out, bufL_whole] at hblk
          have hcv := Lib.run_convert_whole (P := Tryz.prog) wr 82 5 9 Tryz.underlying82 Tryz.underlying5 Tryz.underlying9 wc.heap.size 0 ⟨(escL s.data.toList).toArray⟩ (fun i hi => by
            have hi' : i < (escL s.data.toList).length := hi
            rw [Nat.zero_add, cell_of_row _ _ i _ _ _ hblk, List.getElem?_toArray, bytesV, List.getElem?_map, List.getElem?_eq_getElem hi']
            rfl) N
          have hsz2 : (⟨(escL s.data.toList).toArray⟩ : ByteArray).size = N := by rw [HN.out]; exact List.size_toArray
          rw [hsz2] at hcv
          clear hblk hp hsz2
          go_wp2_with fail
          go_ret
          exact ⟨rfl, HB.out⟩
end Go.Proofs.YtminbdcabacfbaaGreatDoor.V

namespace Go.Proofs.YtminbdcabacfbaaGreatDoor.V
set_option linter.unusedVariables false
open Go.RowKit
set_option linter.unusedSimpArgs false

/-- A replacer as NewReplacer lays it. -/
def Fresh (B r g c : Nat) (W : World) : Prop := W.heap[r]? = some (Obj.cells #[.int .u32 0, .int .i32 0, .int .u32 0, .nilIface, .slice (some ⟨g, 0, none⟩) 6 c] 168 (0, 0)) ∧ Six W g ∧ g ≠ r ∧ B ≤ r

def NewPost (w : World) (e : Ending) (w' : World) : Prop := ∃ r g c, e = .returned (.pointer (some ⟨r, 0, none⟩)) ∧ Fresh w.heap.size r g c w' ∧ Below w.heap.size w w'

set_option maxRecDepth 100000 in
set_option maxHeartbeats 2000000 in
theorem new_calls (b : Nat) (cp : Nat) (w : World) (hs : Six w b) : Calls Tryz.prog 90 #[.slice (some ⟨b, 0, none⟩) 6 cp] w (NewPost w) := by
  obtain ⟨i0, hi, hz0, hz1, hz2⟩ := info_parts infoString
  have HS := Lib.hid hs
  clear hs
  go_enter Tryz.func90, Tryz.ntmps90
  go_wp2_with (at_builtin; refine RowKit.Hid.out ?_)
  refine Lib.hid ?_
  refine wpList_append_own_at _ rfl (.const (.slice none 0 0)) (.tmp 8) 124 rfl w.heap.size 9 i0 (.string ⟨#[]⟩) 1 16 Tryz.underlying124 hi hz0 hz1 hz2 rfl (by decide) (.slice none 0 0) 0 [] rfl ⟨rfl, .inl ⟨rfl, rfl⟩⟩ ⟨b, 0, none⟩ 6 cp pairs.toList rfl rfl ?_ ?_ ?_ ?_ ?_ ?_
  · intro j u hu
    have := HS.out j u (by simpa using hu)
    have ha : (⟨b, 0, none⟩ : Addr).add j = ⟨b, j, none⟩ := by unfold Addr.add; split <;> simp_all
    rw [ha]
    exact this
  · intro u hu
    revert u
    decide
  · decide
  · decide
  · exact Nat.le_refl _
  intro v2 w2 hown2 hg2 _ hat2
  rw [Nat.zero_add, List.nil_append] at hown2
  obtain ⟨g, cap, cur, rfl, hgb, hgk, hcap, _, hsz, hcur⟩ : ∃ g cap cur, v2 = .slice (some ⟨g, 0, none⟩) 6 cap ∧ w.heap.size ≤ g ∧ w2.heap[g]? = some (.cells cur 9 (0, 0)) ∧ 6 ≤ cap ∧ cap ≤ maxLen ∧ cur.size = cap * 1 ∧ cur.toList.take (6 * 1) = pairs.toList := by
    rcases hown2.2 with ⟨_, h6⟩ | h
    · cases h6
    · exact h
  have HSIX := Lib.hid (show Six w2 g from fun i u hu => by
    rw [cell_of_row _ _ i _ _ _ hgk]
    have h1 : pairs.toList[i]? = some u := by simpa using hu
    rw [← hcur, List.getElem?_take] at h1
    split at h1
    · simpa using h1
    · cases h1)
  have HB2 := Lib.hid (show Below w.heap.size w w2 from (Below.refl _ _).grown hg2 (Nat.le_refl _) (fun k hk => by cases hk))
  have HGL := Lib.hid (Array.getElem?_eq_some_iff.1 hgk).1
  clear hown2 hg2 hat2 hgk hcur hsz hcap
  go_wp2_with fail
  go_ret
  exact ⟨w2.heap.size, g, cap, rfl, ⟨heap_alloc_new w2 _, HSIX.out.below ((Below.refl _ _).alloc (Nat.le_refl _) _), Nat.ne_of_lt HGL.out, HB2.out.size⟩, HB2.out.alloc HB2.out.size _⟩

theorem nil_ahead (a : Addr) (w : World) : (nilAhead 392 217 (.pointer (some a)) "Replace").run Tryz.prog w = .ok (some false) w := by kernel_rfl
theorem method_replace (a : Addr) (w : World) : (method 392 217 (.pointer (some a)) "Replace").run Tryz.prog w = .ok (239, .pointer (some a)) w := by kernel_rfl

/-- The table behind the once's road. -/
theorem rep_of {B q : Nat} {w W : World} (h : BInv B q w 3 W) : ∃ A c C, Rep W q A c C := by
  obtain ⟨v, C, hb, hq, hrow, hown, hsz, hv, htab⟩ := h
  rcases hown.2 with ⟨_, h3⟩ | ⟨t, cap, cur, rfl, _, hk, _, _, _, hcur⟩
  · cases h3
  · have hi : ∀ (i : Nat) (u : Value), (olds 3)[i]? = some u → cur[i]? = some u := by
      intro i u hu
      rw [← hcur, List.getElem?_take] at hu
      split at hu
      · simpa using hu
      · cases hu
    exact ⟨_, _, C, hrow, hv, htab, t, cur, _, rfl, hk, hi 0 _ rfl, hi 1 _ rfl, hi 2 _ rfl⟩
theorem Rep.left {r B q : Nat} {w1 : World} {A : Option Addr} {c : Nat} {C : Array Value} {xs : Array Value} (h : Rep w1 q A c C) (hr : w1.heap[r]? = some (Obj.cells xs 168 (0, 0))) : Rep (OnceLeft r B w1 q) q A c C := by
  obtain ⟨hb, hl, ht, t, cur, m, hA, hk, h0, h1, h2⟩ := h
  have far : ∀ (k t : Nat) (D : Array Value) (m : Nat × Nat), w1.heap[k]? = some (Obj.cells D t m) → t ≠ 168 → (OnceLeft r B w1 q).heap[k]? = some (Obj.cells D t m) := fun k t D m hk hne => onceLeft_far hk (fun e => by
    subst e
    exact hne (block_ty hk hr))
  exact ⟨far _ _ _ _ hb (by decide), hl, ht.move (fun a D m ha => far _ _ _ _ ha (by decide)), t, cur, m, hA, far _ _ _ _ hk (by decide), h0, h1, h2⟩

set_option maxRecDepth 100000 in
set_option maxHeartbeats 2000000 in
theorem replacer_calls (B r g c : Nat) (s : ByteArray) (w : World) (hF : Fresh B r g c w) (hBw : B ≤ w.heap.size) (hs : s.size ≤ 1099511627776) :
    Calls Tryz.prog 91 #[.pointer (some ⟨r, 0, none⟩), .string s] w fun e w' => e = .returned (.string ⟨(escL s.data.toList).toArray⟩) ∧ Below B w w' := by
  have hmf : ∀ (fn : Fn) (first cap : Array Value) (w : World), (Instr.makeFunc fn first cap).run Tryz.prog w = .ok (.func fn first cap) w := fun _ _ _ _ => rfl
  have hna := nil_ahead
  have hme := method_replace
  obtain ⟨hr, hsix, hne, hBr⟩ := hF
  have HR := Lib.hid hr
  have HS := Lib.hid hsix
  clear hr hsix
  go_enter Tryz.func91, Tryz.ntmps91
  go_wp2_with (go_at_call 116; refine (do_calls r g c _ HR.out HS.out hne).mono ?_; rintro e w' ⟨rfl, q, w1, hI, rfl⟩; refine RowKit.Hid.out ?_)
  refine Lib.hid ?_
  obtain ⟨A, cA, C, hRep⟩ := rep_of hI
  obtain ⟨v0, C0, hb0, _⟩ := hI
  have hrl : r < w.heap.size := (Array.getElem?_eq_some_iff.1 HR.out).1
  have hw1 := (hb0.block r hrl).trans (setb_block (j := 1) (.int .i32 1) HR.out)
  have hL := onceLeft_block (B := w.heap.size) (q := q) (w1 := w1) hw1
  have hRL := hRep.left (B := w.heap.size) hw1
  have hBL : Below B w (OnceLeft r w.heap.size w1 q) := onceLeft_below (((Below.refl B w).setCell hBr _).trans (hb0.mono hBw)) hBr
  generalize OnceLeft r w.heap.size w1 q = W2 at hL hRL hBL ⊢
  have c3 : W2.cell? ⟨r, 3, none⟩ = some (.iface 217 (.pointer (some ⟨q, 0, none⟩))) := cell_of_row _ _ 3 _ _ _ hL
  have HRL := Lib.hid hRL
  have HBL := Lib.hid hBL
  clear hb0 hw1 hL hRL hBL hRep
  go_wp2_with (go_at_call 239; refine (replace_calls q A cA C s _ HRL.out hs).mono ?_; rintro e w' ⟨rfl, hb⟩)
  go_ret
  exact ⟨rfl, HBL.out.trans (hb.mono (Nat.le_trans hBw HBL.out.size))⟩
end Go.Proofs.YtminbdcabacfbaaGreatDoor.V

namespace Go.Proofs.YtminbdcabacfbaaGreatDoor.V
set_option linter.unusedVariables false
open Go.RowKit Go.Sort
set_option linter.unusedSimpArgs false

/-- The library's table of powers of ten, as it lies from the start. -/
def TabW (w : World) : Prop := 0 < w.heap.size ∧ Lib.TabIs Tryz.prog w "internal/strconv.uint64pow10" .u64 Lib.pow10Tab
theorem tab_named : Tryz.prog.globalNamed "internal/strconv.uint64pow10" = some 0 := by kernel_rfl
theorem TabW.below {w w' : World} (h : TabW w) (hb : Below w.heap.size w w') : TabW w' := ⟨Nat.lt_of_lt_of_le h.1 hb.size, var?_below hb tab_named h.1 h.2⟩
theorem below_grow {B : Nat} {W w : World} (h : Below B W w) (hB : B ≤ w.heap.size) (q : Nat) (os : Array Obj) : Below B W (grow (w.drewN q) os) :=
  h.trans ⟨rfl, rfl, rfl, by simp [grow, World.drewN], fun k hk => by
    show (w.heap ++ os)[k]? = w.heap[k]?
    exact Array.getElem?_append_left (by omega)⟩
theorem marks_eq (l : List UInt8) : ((⟨#[39]⟩ : ByteArray) ++ ⟨l.toArray⟩) ++ ⟨#[39]⟩ = ⟨(39 :: l ++ [39]).toArray⟩ := by
  apply ByteArray.ext
  simp [ByteArray.data_append]
theorem six_new (w : World) : Six (w.alloc (.cells pairs 9)) w.heap.size := fun i u hu => (cell_of_row _ _ i _ _ _ (heap_alloc_new w _)).trans hu
theorem Six.drew {w : World} {g : Nat} (h : Six w g) : Six w.drew g := h
theorem Fresh.drew {B r g c : Nat} {w : World} (h : Fresh B r g c w) : Fresh B r g c w.drew := h
/-- A value's text. -/
def textL (s : Bool) (t : List UInt8) (n : Int) : List UInt8 := match s with
  | false => Lib.itoa n
  | true => if plainL t = true ∧ t.length ≤ 32 then t else 39 :: escL t ++ [39]
theorem of_bytes (s : ByteArray) : (⟨s.data.toList.toArray⟩ : ByteArray) = s := by
  cases s
  simp

set_option maxRecDepth 100000 in
set_option maxHeartbeats 2000000 in
theorem text_calls (s : Bool) (t : ByteArray) (n : Int) (w : World) (ht : t.size ≤ 1099511627776) (h0 : -9223372036854775808 ≤ n) (h1 : n ≤ 9223372036854775807) (hw : TabW w) :
    Calls Tryz.prog 54 #[.agg #[.bool s, .string t, .int .i64 n]] w fun e w' => e = .returned (.string ⟨(textL s t.data.toList n).toArray⟩) ∧ Below w.heap.size w w' := by
  have HB := Lib.hid ((Below.refl w.heap.size w).alloc (Nat.le_refl _) (.cells #[.bool s, .string t, .int .i64 n] 43))
  have HW := Lib.hid (hw.below HB.out)
  have H01 := Lib.hid (And.intro h0 h1)
  have htl : t.data.toList.length = t.size := by simp
  clear hw h0 h1
  cases s with
  | false =>
    go_enter Tryz.func54, Tryz.ntmps54
    go_wp2_with (go_at_call 89; refine (Tryz.strconv_FormatInt_10 n H01.out.1 H01.out.2 _ HW.out.2).mono ?_; rintro e w' ⟨rfl, q, os, rfl⟩)
    go_ret
    exact ⟨rfl, below_grow HB.out HB.out.size _ _⟩
  | true =>
    by_cases hp : plainL t.data.toList = true
    · by_cases hl : t.size ≤ 32
      · have HE := Lib.hid (show textL true t.data.toList n = t.data.toList from if_pos ⟨hp, by omega⟩)
        have HP := Lib.hid hp
        have hld : decide ((t.size : Int) ≤ 32) = true := decide_eq_true (by omega)
        clear hp htl
        go_enter Tryz.func54, Tryz.ntmps54
        go_wp2_with (go_at_call 76; refine (plain_calls t _ (by unfold maxLen; omega)).mono ?_; rw [HP.out]; rintro e w' ⟨rfl, hb⟩; have d1 := cell_below hb (show (w.alloc (.cells #[.bool true, .string t, .int .i64 n] 43)).cell? ⟨w.heap.size, 1, none⟩ = some (.string t) from by simp); have HB2 := Lib.hid hb; clear hb)
        go_ret
        exact ⟨by rw [HE.out, of_bytes]; rfl, HB.out.trans (HB2.out.mono HB.out.size)⟩
      · have HE := Lib.hid (show textL true t.data.toList n = 39 :: escL t.data.toList ++ [39] from if_neg (fun h => hl (by omega)))
        have HP := Lib.hid hp
        have hld : decide ((t.size : Int) ≤ 32) = false := decide_eq_false (by omega)
        obtain ⟨E, hE⟩ : ∃ E : ByteArray, E = ⟨(escL t.data.toList).toArray⟩ := ⟨_, rfl⟩
        have hEs : E.size ≤ 2199023255552 := by
          have h1 := escL_length t.data.toList
          have h2 := cntS_le t.data.toList
          have h3 : E.size = (escL t.data.toList).length := by rw [hE]; exact List.size_toArray
          omega
        have hadd1 : ∀ w, (Op.stringOp .add ⟨#[39]⟩ E).run Tryz.prog w = .ok (.string (⟨#[39]⟩ ++ E)) w := fun w => run_string_add_sum w _ _ (by have : (⟨#[39]⟩ : ByteArray).size = 1 := rfl; omega)
        have hadd2 : ∀ w, (Op.stringOp .add (⟨#[39]⟩ ++ E) ⟨#[39]⟩).run Tryz.prog w = .ok (.string ((⟨#[39]⟩ ++ E) ++ ⟨#[39]⟩)) w := fun w => run_string_add_sum w _ _ (by rw [ByteArray.size_append]; have : (⟨#[39]⟩ : ByteArray).size = 1 := rfl; omega)
        have HEE := Lib.hid hE
        clear hp htl hE hEs
        go_enter Tryz.func54, Tryz.ntmps54
        go_wp2_with (go_at_call 76; refine (plain_calls t _ (by unfold maxLen; omega)).mono ?_; rw [HP.out]; rintro e w2 ⟨rfl, hb⟩; have d1 := cell_below hb (show (w.alloc (.cells #[.bool true, .string t, .int .i64 n] 43)).cell? ⟨w.heap.size, 1, none⟩ = some (.string t) from by simp); have HB2 := Lib.hid (HB.out.trans (hb.mono HB.out.size)); have D1 := Lib.hid d1; clear hb)
        go_region_held3 (fun W => W.cell? ⟨w.heap.size, 1, none⟩ = some (.string t) ∧ Below w2.heap.size w2 W)
          ((go_split_ands; refine ⟨?_, ?_⟩; (focus (first | with_reducible assumption | (refine cell_below (w := w2) ?_ D1.out; (repeat (first | with_reducible assumption | with_reducible exact Below.refl _ _ | with_reducible apply Below.drew | (with_reducible refine Below.alloc ?_ ?_ _; rotate_left; focus ((first | omega | (simp <;> omega)); done))))))); (focus (repeat (first | with_reducible assumption | with_reducible exact Below.refl _ _ | with_reducible apply Below.drew | (with_reducible refine Below.alloc ?_ ?_ _; rotate_left; focus ((first | omega | (simp <;> omega)); done)))))))
          (first
            | (go_at_call 90; ((with_reducible refine (new_calls _ _ _ ?_).mono ?_)); (focus (first | exact six_new w2 | exact (six_new w2).drew)); rintro e w3 ⟨r, g, c, rfl, hF, hb3⟩; have HF := Lib.hid hF; have hsz3 := hb3.size; have HSZ3 := Lib.hid hsz3; (refine (have hb23 : Below w2.heap.size w2 w3 := ?_; ?_); focus (refine below_then ?_ hb3 ?_; (focus (repeat (first | with_reducible assumption | with_reducible exact Below.refl _ _ | with_reducible apply Below.drew | (with_reducible refine Below.alloc ?_ ?_ _; rotate_left; focus ((first | omega | (simp <;> omega)); done))))); (simp; done))); have HB23 := Lib.hid hb23; clear hF hb3 hsz3)
            | (go_at_call 91; refine (replacer_calls _ _ _ _ t _ HF.out HSZ3.out ht).mono ?_; rintro e w4 ⟨rfl, hb4⟩; rw [← HEE.out]; (refine (have hb24 : Below w2.heap.size w2 w4 := ?_; ?_); focus (refine HB23.out.trans (hb4.mono ?_); (simp; done))); have HB24 := Lib.hid hb24; clear hb4))
        go_wp2_with fail
        go_ret
        exact ⟨by rw [HE.out, ← marks_eq, ← HEE.out]; rfl, HB2.out.trans (by have := HB24.out; exact this.mono HB2.out.size)⟩
    · have HE := Lib.hid (show textL true t.data.toList n = 39 :: escL t.data.toList ++ [39] from if_neg (fun h => hp h.1))
      have HP := Lib.hid (show plainL t.data.toList = false by simpa using hp)
      obtain ⟨E, hE⟩ : ∃ E : ByteArray, E = ⟨(escL t.data.toList).toArray⟩ := ⟨_, rfl⟩
      have hEs : E.size ≤ 2199023255552 := by
        have h1 := escL_length t.data.toList
        have h2 := cntS_le t.data.toList
        have h3 : E.size = (escL t.data.toList).length := by rw [hE]; exact List.size_toArray
        omega
      have hadd1 : ∀ w, (Op.stringOp .add ⟨#[39]⟩ E).run Tryz.prog w = .ok (.string (⟨#[39]⟩ ++ E)) w := fun w => run_string_add_sum w _ _ (by have : (⟨#[39]⟩ : ByteArray).size = 1 := rfl; omega)
      have hadd2 : ∀ w, (Op.stringOp .add (⟨#[39]⟩ ++ E) ⟨#[39]⟩).run Tryz.prog w = .ok (.string ((⟨#[39]⟩ ++ E) ++ ⟨#[39]⟩)) w := fun w => run_string_add_sum w _ _ (by rw [ByteArray.size_append]; have : (⟨#[39]⟩ : ByteArray).size = 1 := rfl; omega)
      have HEE := Lib.hid hE
      clear hp htl hE hEs
      go_enter Tryz.func54, Tryz.ntmps54
      go_wp2_with (go_at_call 76; refine (plain_calls t _ (by unfold maxLen; omega)).mono ?_; rw [HP.out]; rintro e w2 ⟨rfl, hb⟩; have d1 := cell_below hb (show (w.alloc (.cells #[.bool true, .string t, .int .i64 n] 43)).cell? ⟨w.heap.size, 1, none⟩ = some (.string t) from by simp); have HB2 := Lib.hid (HB.out.trans (hb.mono HB.out.size)); have D1 := Lib.hid d1; clear hb)
      go_region_held3 (fun W => W.cell? ⟨w.heap.size, 1, none⟩ = some (.string t) ∧ Below w2.heap.size w2 W)
        ((go_split_ands; refine ⟨?_, ?_⟩; (focus (first | with_reducible assumption | (refine cell_below (w := w2) ?_ D1.out; (repeat (first | with_reducible assumption | with_reducible exact Below.refl _ _ | with_reducible apply Below.drew | (with_reducible refine Below.alloc ?_ ?_ _; rotate_left; focus ((first | omega | (simp <;> omega)); done))))))); (focus (repeat (first | with_reducible assumption | with_reducible exact Below.refl _ _ | with_reducible apply Below.drew | (with_reducible refine Below.alloc ?_ ?_ _; rotate_left; focus ((first | omega | (simp <;> omega)); done)))))))
        (first
          | (go_at_call 90; ((with_reducible refine (new_calls _ _ _ ?_).mono ?_)); (focus (first | exact six_new w2 | exact (six_new w2).drew)); rintro e w3 ⟨r, g, c, rfl, hF, hb3⟩; have HF := Lib.hid hF; have hsz3 := hb3.size; have HSZ3 := Lib.hid hsz3; (refine (have hb23 : Below w2.heap.size w2 w3 := ?_; ?_); focus (refine below_then ?_ hb3 ?_; (focus (repeat (first | with_reducible assumption | with_reducible exact Below.refl _ _ | with_reducible apply Below.drew | (with_reducible refine Below.alloc ?_ ?_ _; rotate_left; focus ((first | omega | (simp <;> omega)); done))))); (simp; done))); have HB23 := Lib.hid hb23; clear hF hb3 hsz3)
          | (go_at_call 91; refine (replacer_calls _ _ _ _ t _ HF.out HSZ3.out ht).mono ?_; rintro e w4 ⟨rfl, hb4⟩; rw [← HEE.out]; (refine (have hb24 : Below w2.heap.size w2 w4 := ?_; ?_); focus (refine HB23.out.trans (hb4.mono ?_); (simp; done))); have HB24 := Lib.hid hb24; clear hb4))
      go_wp2_with fail
      go_ret
      exact ⟨by rw [HE.out, ← marks_eq, ← HEE.out]; rfl, HB2.out.trans (by have := HB24.out; exact this.mono HB2.out.size)⟩
end Go.Proofs.YtminbdcabacfbaaGreatDoor.V

namespace Go.Proofs.YtminbdcabacfbaaGreatDoor.V
set_option linter.unusedSimpArgs false
set_option linter.unusedVariables false
open Go.ChangeShapes Go.WideShapes Go.ChangeAt Go.RowKit
set_option maxRecDepth 100000

theorem tens_eq : (Rows.laid_internal_strconv_uint64pow10 : DataW Unit) = Lib.tabData .u64 Lib.pow10Tab := by kernel_rfl
theorem tens_type : (Tryz.prog.globals[0]?).map (·.type) = some 195 := by kernel_rfl
theorem tabW_of {W : World} (h : laidMetH Tryz.prog laidL W) : TabW W := by
  have h0 : laidMet Tryz.prog laidL W := h
  have h2 := laidMet.tail (laidMet.tail h0)
  rw [tens_eq] at h2
  have h3 : Lib.TabIs Tryz.prog W "internal/strconv.uint64pow10" .u64 Lib.pow10Tab := Lib.tabIs_of_head tab_named tens_type Tryz.underlying195 Tryz.underlying175 (by kernel_rfl) (by kernel_rfl) h2
  refine ⟨?_, h3⟩
  have hc := h3.cell tab_named 0 (by decide)
  rcases Nat.lt_or_ge 0 W.heap.size with h' | h'
  · exact h'
  · simp [World.cell?, Array.getElem?_eq_none h'] at hc
end Go.Proofs.YtminbdcabacfbaaGreatDoor.V

namespace Go.Proofs.YtminbdcabacfbaaGreatDoor.V
set_option linter.unusedVariables false
set_option linter.unusedSimpArgs false

theorem escB_cases (c : UInt8) : (c = 10 ∧ escB c = [92, 110]) ∨ (c = 39 ∧ escB c = [92, 39]) ∨ (c = 92 ∧ escB c = [92, 92]) ∨ (c ≠ 10 ∧ c ≠ 39 ∧ c ≠ 92 ∧ escB c = [c]) := by
  unfold escB
  by_cases h1 : c = 10
  · simp [h1]
  · by_cases h2 : c = 39
    · simp [h1, h2]
    · by_cases h3 : c = 92 <;> simp [h1, h2, h3]
theorem dig_eq (u : Nat) : Lib.decDigits u = if u < 10 then [UInt8.ofNat (48 + u)] else Lib.decDigits (u / 10) ++ [UInt8.ofNat (48 + u % 10)] := by
  rw [Lib.decDigits]
  rfl
end Go.Proofs.YtminbdcabacfbaaGreatDoor.V

namespace Go.Proofs.YtminbdcabacfbaaGreatDoor.V
set_option linter.unusedVariables false
set_option linter.unusedSimpArgs false

theorem wordI_of (c : UInt8) : wordI (c.toNat : Int) = ofB wrdI c := by
  simp only [wordI, smallI, ofB, wrdI, sml, bgI, figI]
  congr 1
theorem escL_le2 (l : List UInt8) : (escL l).length ≤ 2 * l.length := by
  have h1 := escL_length l
  have h2 := cntS_le l
  omega
end Go.Proofs.YtminbdcabacfbaaGreatDoor.V

namespace Go.Proofs.YtminbdcabacfbaaGreatDoor.V
set_option linter.unusedVariables false
set_option linter.unusedSimpArgs false

structure TermL where
  v : Bool
  x : List UInt8
  s : Bool
  t : List UInt8
  n : Int
structure AtomL where
  p : List UInt8
  a : List TermL
structure LitL where
  k : Nat
  a : AtomL
  o : List UInt8
  l : TermL
  r : TermL
structure RuleL where
  h : AtomL
  b : List LitL
structure DeclL where
  p : List UInt8
  n : Int
def term0 : TermL := ⟨false, [], false, [], 0⟩
def atom0 : AtomL := ⟨[], []⟩

abbrev TP := Tok × Nat
def eofT (N : Nat) : TP := (⟨0, [], 0, false⟩, N)
/-- A token, so many behind the next one. -/
def pk (N : Nat) (r : List TP) (i : Nat) : TP := r[i]?.getD (eofT N)
def isM (N : Nat) (r : List TP) (i : Nat) (m : List UInt8) : Bool := (pk N r i).1.k == 4 && (pk N r i).1.s == m
def opL (m : List UInt8) : Bool := m == [61] || m == [33, 61] || m == [60] || m == [60, 61] || m == [62] || m == [62, 61]
def isO (N : Nat) (r : List TP) (i : Nat) : Bool := (pk N r i).1.k == 4 && opL (pk N r i).1.s
def notL : List UInt8 := [110, 111, 116]

inductive Par (α : Type) where
  | bad (at_ : Nat) (e : Nat)
  | ok (x : α) (r : List TP)

def nameP (N : Nat) (r : List TP) : Par (List UInt8) :=
  if (pk N r 0).1.k == 1 && !(pk N r 0).1.q && plainL (pk N r 0).1.s then .ok (pk N r 0).1.s r.tail else .bad (pk N r 0).2 2

def termP (N : Nat) (r : List TP) : Par TermL :=
  if (pk N r 0).1.k == 2 then .ok ⟨true, (pk N r 0).1.s, false, [], 0⟩ r.tail
  else if (pk N r 0).1.k == 3 then .ok ⟨false, [], false, [], (pk N r 0).1.n⟩ r.tail
  else if (pk N r 0).1.k == 1 && ((pk N r 0).1.q || !((pk N r 0).1.s == notL)) then .ok ⟨false, [], true, (pk N r 0).1.s, 0⟩ r.tail
  else .bad (pk N r 0).2 2

def someP {α : Type} (one : List TP → Par α) (N : Nat) : Nat → List TP → Par (List α)
  | 0, r => .bad (pk N r 0).2 4
  | m + 1, r => match one r with
    | .bad a e => .bad a e
    | .ok x r1 => if isM N r1 0 [44] then (match someP one N m r1.tail with
        | .bad a e => .bad a e
        | .ok xs r2 => .ok (x :: xs) r2)
      else .ok [x] r1

def markP {α : Type} (N : Nat) (m : List UInt8) (x : α) (r : List TP) : Par α := if isM N r 0 m then .ok x r.tail else .bad (pk N r 0).2 2

def atomP (N : Nat) (r : List TP) : Par AtomL := match nameP N r with
  | .bad a e => .bad a e
  | .ok p r1 => if isM N r1 0 [40] then (match someP (termP N) N 6 r1.tail with
      | .bad a e => .bad a e
      | .ok l r2 => markP N [41] ⟨p, l⟩ r2)
    else .ok ⟨p, []⟩ r1

def litP (N : Nat) (r : List TP) : Par LitL :=
  if (pk N r 0).1.k == 1 && !(pk N r 0).1.q && (pk N r 0).1.s == notL then (match atomP N r.tail with
    | .bad a e => .bad a e
    | .ok a r1 => .ok ⟨2, a, [], term0, term0⟩ r1)
  else if (pk N r 0).1.k == 1 && !(pk N r 0).1.q && !isO N r 1 then (match atomP N r with
    | .bad a e => .bad a e
    | .ok a r1 => .ok ⟨1, a, [], term0, term0⟩ r1)
  else match termP N r with
    | .bad a e => .bad a e
    | .ok l r1 => if isO N r1 0 then (match termP N r1.tail with
        | .bad a e => .bad a e
        | .ok u r2 => .ok ⟨3, atom0, (pk N r1 0).1.s, l, u⟩ r2)
      else .bad (pk N r1 0).2 2

def arityP (N : Nat) (r : List TP) : Par Int :=
  if (pk N r 0).1.k == 3 then (if decide ((pk N r 0).1.n < 0) || decide (6 < (pk N r 0).1.n) then .bad (pk N r 0).2 4 else .ok (pk N r 0).1.n r.tail)
  else .bad (pk N r 0).2 2

def declP (N : Nat) (r : List TP) : Par DeclL := match nameP N r with
  | .bad a e => .bad a e
  | .ok p r1 => match arityP N r1.tail with
    | .bad a e => .bad a e
    | .ok n r2 => markP N [46] ⟨p, n⟩ r2

def ruleP (N : Nat) (r : List TP) : Par RuleL := match atomP N r with
  | .bad a e => .bad a e
  | .ok h r1 => if isM N r1 0 [58, 45] then (match someP (litP N) N 8 r1.tail with
      | .bad a e => .bad a e
      | .ok b r2 => markP N [46] ⟨h, b⟩ r2)
    else markP N [46] ⟨h, []⟩ r1

/-- The clauses of what is left. -/
def progF (N : Nat) : Nat → List DeclL → List RuleL → List TP → Par (List DeclL × List RuleL)
  | 0, ds, rs, _ => .ok (ds, rs) []
  | f + 1, ds, rs, [] => .ok (ds, rs) []
  | f + 1, ds, rs, x :: r =>
    if isM N (x :: r) 1 [47] then
      if ds.length == 400 then .bad x.2 4
      else match declP N (x :: r) with
        | .bad a e => .bad a e
        | .ok d r1 => progF N f (ds ++ [d]) rs r1
    else
      if rs.length == 400 then .bad x.2 4
      else match ruleP N (x :: r) with
        | .bad a e => .bad a e
        | .ok c r1 => progF N f ds (rs ++ [c]) r1

inductive Got1 (α : Type) where
  | bad (at_ : Nat) (e : Nat)
  | ok (x : α)

/-- A text's program; a text's atom. -/
def parseL (s : List UInt8) : Got1 (List DeclL × List RuleL) := match scanL s with
  | .bad a e => .bad a e
  | .ok l => match progF s.length (l.length + 1) [] [] l with
    | .bad a e => .bad a e
    | .ok g _ => .ok g
theorem tail_lt {N : Nat} {r : List TP} (h : (pk N r 0).1.k ≠ 0) : r.tail.length < r.length := by
  cases r with
  | nil => exact absurd rfl h
  | cons x t => simp
theorem nameP_lt {N : Nat} {r r1 : List TP} {p : List UInt8} (h : nameP N r = .ok p r1) : r1.length < r.length := by
  unfold nameP at h
  split at h
  · rename_i hc
    simp only [Par.ok.injEq] at h
    rw [← h.2]
    exact tail_lt (N := N) (by simp_all)
  · simp at h
theorem termP_lt {N : Nat} {r r1 : List TP} {p : TermL} (h : termP N r = .ok p r1) : r1.length < r.length := by
  unfold termP at h
  repeat' split at h
  all_goals first
    | (simp at h; done)
    | (simp only [Par.ok.injEq] at h
       rw [← h.2]
       exact tail_lt (N := N) (by simp_all))
theorem markP_le {α : Type} {N : Nat} {m : List UInt8} {x y : α} {r r1 : List TP} (h : markP N m x r = .ok y r1) : r1.length ≤ r.length := by
  unfold markP at h
  split at h
  · simp only [Par.ok.injEq] at h
    rw [← h.2]
    simp
  · simp at h
theorem someP_le {α : Type} {one : List TP → Par α} {N : Nat} (ho : ∀ r x r1, one r = .ok x r1 → r1.length < r.length) :
    ∀ (m : Nat) (r : List TP) (xs : List α) (r1 : List TP), someP one N m r = .ok xs r1 → r1.length < r.length := by
  intro m
  induction m with
  | zero => intro r xs r1 h; simp [someP] at h
  | succ m ih =>
    intro r xs r1 h
    unfold someP at h
    split at h
    · simp at h
    · rename_i x r2 h2
      have h2' := ho _ _ _ h2
      split at h
      · split at h
        · simp at h
        · rename_i ys r3 h3
          have := ih _ _ _ h3
          simp only [Par.ok.injEq] at h
          rw [← h.2]
          simp at this
          omega
      · simp only [Par.ok.injEq] at h
        rw [← h.2]
        exact h2'
theorem atomP_lt {N : Nat} {r r1 : List TP} {p : AtomL} (h : atomP N r = .ok p r1) : r1.length < r.length := by
  unfold atomP at h
  split at h
  · simp at h
  · rename_i n r2 h2
    have h2' := nameP_lt h2
    split at h
    · split at h
      · simp at h
      · rename_i l r3 h3
        have h3' := someP_le (fun _ _ _ => termP_lt) _ _ _ _ h3
        have := markP_le h
        simp at h3'
        omega
    · simp only [Par.ok.injEq] at h
      rw [← h.2]
      exact h2'
theorem litP_lt {N : Nat} {r r1 : List TP} {p : LitL} (h : litP N r = .ok p r1) : r1.length < r.length := by
  unfold litP at h
  split at h
  · split at h
    · simp at h
    · rename_i a r2 h2
      have := atomP_lt h2
      simp only [Par.ok.injEq] at h
      rw [← h.2]
      simp at this
      omega
  · split at h
    · split at h
      · simp at h
      · rename_i a r2 h2
        have := atomP_lt h2
        simp only [Par.ok.injEq] at h
        rw [← h.2]
        exact this
    · split at h
      · simp at h
      · rename_i a r2 h2
        have h2' := termP_lt h2
        split at h
        · split at h
          · simp at h
          · rename_i u r3 h3
            have h3' := termP_lt h3
            simp only [Par.ok.injEq] at h
            rw [← h.2]
            simp at h3'
            omega
        · simp at h
theorem arityP_lt {N : Nat} {r r1 : List TP} {p : Int} (h : arityP N r = .ok p r1) : r1.length < r.length := by
  unfold arityP at h
  repeat' split at h
  all_goals first
    | (simp at h; done)
    | (simp only [Par.ok.injEq] at h
       rw [← h.2]
       exact tail_lt (N := N) (by simp_all))
theorem declP_lt {N : Nat} {r r1 : List TP} {p : DeclL} (h : declP N r = .ok p r1) : r1.length < r.length := by
  unfold declP at h
  split at h
  · simp at h
  · rename_i n r2 h2
    have h2' := nameP_lt h2
    split at h
    · simp at h
    · rename_i l r3 h3
      have h3' := arityP_lt h3
      have := markP_le h
      simp at h3'
      omega
theorem ruleP_lt {N : Nat} {r r1 : List TP} {p : RuleL} (h : ruleP N r = .ok p r1) : r1.length < r.length := by
  unfold ruleP at h
  split at h
  · simp at h
  · rename_i n r2 h2
    have h2' := atomP_lt h2
    split at h
    · split at h
      · simp at h
      · rename_i l r3 h3
        have h3' := someP_le (fun _ _ _ => litP_lt) _ _ _ _ h3
        have := markP_le h
        simp at h3'
        omega
    · have := markP_le h
      omega
theorem progF_more (N f : Nat) : ∀ (g : Nat) (ds : List DeclL) (rs : List RuleL) (r : List TP), r.length < f → r.length < g → progF N f ds rs r = progF N g ds rs r := by
  induction f with
  | zero => intro g ds rs r h; omega
  | succ f ih =>
    intro g ds rs r h1 h2
    match g, h2 with
    | g + 1, h2 =>
      match r with
      | [] => rfl
      | x :: r =>
        unfold progF
        split
        · split
          · rfl
          · split
            · rfl
            · rename_i d r1 hd
              have := declP_lt hd
              exact ih g _ _ _ (by omega) (by omega)
        · split
          · rfl
          · split
            · rfl
            · rename_i d r1 hd
              have := ruleP_lt hd
              exact ih g _ _ _ (by omega) (by omega)
/-- The clauses of what is left, of whatever length. -/
def progT (N : Nat) (ds : List DeclL) (rs : List RuleL) (r : List TP) : Par (List DeclL × List RuleL) := progF N (r.length + 1) ds rs r
theorem progT_cons (N : Nat) (ds : List DeclL) (rs : List RuleL) (x : TP) (r : List TP) : progT N ds rs (x :: r) =
    if isM N (x :: r) 1 [47] then
      if ds.length == 400 then .bad x.2 4
      else match declP N (x :: r) with
        | .bad a e => .bad a e
        | .ok d r1 => progT N (ds ++ [d]) rs r1
    else
      if rs.length == 400 then .bad x.2 4
      else match ruleP N (x :: r) with
        | .bad a e => .bad a e
        | .ok c r1 => progT N ds (rs ++ [c]) r1 := by
  unfold progT
  rw [progF]
  split
  · split
    · rfl
    · split
      · rfl
      · rename_i d r1 hd
        have := declP_lt hd
        exact progF_more N _ _ _ _ _ (by simp at this ⊢; omega) (by omega)
  · split
    · rfl
    · split
      · rfl
      · rename_i d r1 hd
        have := ruleP_lt hd
        exact progF_more N _ _ _ _ _ (by simp at this ⊢; omega) (by omega)
end Go.Proofs.YtminbdcabacfbaaGreatDoor.V

namespace Go.Proofs.YtminbdcabacfbaaGreatDoor.V
set_option linter.unusedVariables false
set_option linter.unusedSimpArgs false

def termT (t : TermL) : List UInt8 := if t.v then t.x else textL t.s t.t t.n
/-- Texts with something between. -/
def sepT (m : List UInt8) : List (List UInt8) → List UInt8
  | [] => []
  | [x] => x
  | x :: y :: r => x ++ m ++ sepT m (y :: r)
def cmaT : List UInt8 := [44, 32]
def atomT (a : AtomL) : List UInt8 := if a.a = [] then a.p else a.p ++ [40] ++ sepT cmaT (a.a.map termT) ++ [41]
def litT (l : LitL) : List UInt8 :=
  if l.k = 1 then atomT l.a else if l.k = 2 then [110, 111, 116, 32] ++ atomT l.a
  else if l.k = 3 then termT l.l ++ [32] ++ l.o ++ [32] ++ termT l.r else []
def ruleT (r : RuleL) : List UInt8 := if r.b = [] then atomT r.h ++ [46] else atomT r.h ++ [32, 58, 45, 32] ++ sepT cmaT (r.b.map litT) ++ [46]
def declT (d : DeclL) : List UInt8 := d.p ++ [47] ++ Lib.itoa d.n ++ [46]
def prgT (ds : List DeclL) (rs : List RuleL) : List UInt8 := (ds.flatMap fun d => declT d ++ [10]) ++ (rs.flatMap fun r => ruleT r ++ [10])

def isTerm0 (t : TermL) : Bool := !t.v && t.x.isEmpty && !t.s && t.t.isEmpty && t.n == 0
def varL (x : List UInt8) : Bool := match x with
  | [] => false
  | c :: r => decide ((c :: r).length ≤ 32) && ofB bgI c && r.all (ofB wrdI)
def mayT (t : TermL) : Bool :=
  if t.v then varL t.x && !t.s && t.t.isEmpty && t.n == 0
  else t.x.isEmpty && (if t.s then t.n == 0 else t.t.isEmpty)
def nameL (p : List UInt8) : Bool := plainL p && decide (p.length ≤ 32)
def mayA (a : AtomL) : Bool := nameL a.p && decide (a.a.length ≤ 6) && a.a.all mayT
def mayL (l : LitL) : Bool :=
  if l.k = 3 then opL l.o && mayT l.l && mayT l.r && l.a.p.isEmpty && l.a.a.isEmpty
  else (l.k == 1 || l.k == 2) && l.o.isEmpty && isTerm0 l.l && isTerm0 l.r && mayA l.a
def mayR (r : RuleL) : Bool := mayA r.h && decide (r.b.length ≤ 8) && r.b.all mayL
def mayD (d : DeclL) : Bool := nameL d.p && decide (0 ≤ d.n) && decide (d.n ≤ 6)
def mayP (ds : List DeclL) (rs : List RuleL) : Bool := decide (ds.length ≤ 400) && decide (rs.length ≤ 400) && ds.all mayD && rs.all mayR
def mk (m : List UInt8) : Tok := ⟨4, m, 0, false⟩
end Go.Proofs.YtminbdcabacfbaaGreatDoor.V

namespace Go.Proofs.YtminbdcabacfbaaGreatDoor.V
set_option linter.unusedVariables false
set_option linter.unusedSimpArgs false
open Go.RowKit

theorem infoBld : (Tryz.prog.info? 84).map (·.size) = some 2 := by kernel_rfl
theorem liesBld : liesAt Tryz.prog Tryz.prog.depth 84 (2 / Tryz.prog.cellsOf 84) 0 84 1 = true := by kernel_rfl
theorem byteInfo : (Tryz.prog.info? 5).map (fun i => (i.zero, i.size, i.bytes)) = some (some (.int .u8 0), 1, 1) := by kernel_rfl
/-- A builder that holds some bytes; its cells are of no place below B. -/
abbrev BldAt (B b : Nat) (p : Value) (bs : List Value) (w : World) : Prop := Lib.BuilderAtF 84 5 B b p bs w
abbrev IsBld (B b : Nat) (bs : List Value) (w : World) : Prop := Lib.IsBuilderF 84 5 B b bs w

set_option maxHeartbeats 1000000 in
set_option maxRecDepth 100000 in
theorem bcheck_used (b : Nat) (w : World) (h0 : w.cell? ⟨b, 0, none⟩ = some (.pointer (some ⟨b, 0, none⟩))) :
    Calls Tryz.prog 73 #[.pointer (some ⟨b, 0, none⟩)] w fun e w' => e = .returned (.tuple #[]) ∧ w' = w := by
  obtain ⟨j, hj, _⟩ := Option.map_eq_some_iff.1 infoBld
  go_enter Tryz.func73, Tryz.ntmps73
  go_wp2
  rw [Lib.run_neq_ptr_same w _ Tryz.underlying81 hj]
  go_wp2
  go_end0
  exact ⟨rfl, rfl⟩
set_option maxHeartbeats 1000000 in
set_option maxRecDepth 100000 in
theorem bcheck_fresh (b : Nat) (w : World) (h0 : w.cell? ⟨b, 0, none⟩ = some (.pointer none)) (hsh : w.shape? b = some (84, 2)) (hfz : w.frozen? ⟨b, 0, none⟩ = false) :
    Calls Tryz.prog 73 #[.pointer (some ⟨b, 0, none⟩)] w fun e w' => e = .returned (.tuple #[]) ∧ w' = w.setCell ⟨b, 0, none⟩ (.pointer (some ⟨b, 0, none⟩)) := by
  obtain ⟨j, hj, hjs⟩ := Option.map_eq_some_iff.1 infoBld
  go_enter Tryz.func73, Tryz.ntmps73
  go_wp2
  rw [Lib.run_to_unsafe w ⟨b, 0, none⟩ Tryz.underlying81 Tryz.underlying143 hj (by rw [hjs]; decide) hsh (Nat.zero_lt_succ 1)]
  simp only [Result.andThen]
  rw [Oper.upon_value]
  go_wp2
  rw [run_callFunc_extern Tryz.func103 (by kernel_rfl) (by kernel_rfl) (by kernel_rfl) (e := Extern.AbiNoEscape.same) (by kernel_rfl)]
  rw [Lib.run_noEscape]
  simp only [Result.andThen]
  rw [Oper.upon_value]
  go_wp2
  rw [Lib.run_from_unsafe w ⟨b, 0, none⟩ Tryz.underlying143 Tryz.underlying81 hj hsh liesBld]
  simp only [Result.andThen]
  rw [Oper.upon_value]
  go_wp2
  go_end0
  exact ⟨rfl, rfl⟩
theorem bcheck_calls (B b : Nat) (bs : List Value) (w : World) (h : IsBld B b bs w) :
    Calls Tryz.prog 73 #[.pointer (some ⟨b, 0, none⟩)] w fun e w' => e = .returned (.tuple #[]) ∧ (BldAt B b (.pointer (some ⟨b, 0, none⟩)) bs w' ∧ Below B w w') := by
  rcases h with h | h
  · refine (bcheck_fresh b w h.cell0 h.shape h.frozen0).mono ?_
    rintro e w' ⟨rfl, rfl⟩
    exact ⟨rfl, h.used _, (Below.refl B w).setCell (p := ⟨b, 0, none⟩) h.1 _⟩
  · refine (bcheck_used b w h.cell0).mono ?_
    rintro e w' ⟨rfl, rfl⟩
    exact ⟨rfl, h, Below.refl B _⟩

set_option maxHeartbeats 2000000 in
set_option maxRecDepth 100000 in
theorem bwrite_calls (B b : Nat) (bs : List Value) (s : ByteArray) (w : World) (h : IsBld B b bs w) (hlen : bs.length + s.size ≤ 140737488355328) (hBw : B ≤ w.heap.size) :
    Calls Tryz.prog 39 #[.pointer (some ⟨b, 0, none⟩), .string s] w fun e w' => e = .returned (.tuple #[.int .i64 s.size, .nilIface]) ∧ (BldAt B b (.pointer (some ⟨b, 0, none⟩)) (bs ++ Lib.strCells s) w' ∧ Below B w w') := by
  obtain ⟨i0, hi, hz0, hz1, hz2⟩ := info_parts byteInfo
  go_enter Tryz.func39, Tryz.ntmps39
  go_wp2_with (go_at_call 73; refine (bcheck_calls B b bs _ h).mono ?_)
  rintro e w1 ⟨rfl, h1, hb1⟩
  obtain ⟨hB, v, hbk, hown, hne⟩ := h1
  have c0 : w1.cell? ⟨b, 0, none⟩ = some (.pointer (some ⟨b, 0, none⟩)) := by rw [Lib.cell_of_heap hbk]; rfl
  have c1 : w1.cell? ⟨b, 1, none⟩ = some v := by rw [Lib.cell_of_heap hbk]; rfl
  go_wp2_with (at_builtin; refine Lib.wpList_append_own_stringF _ rfl _ _ 82 9 rfl B 5 i0 Tryz.underlying82 Tryz.underlying9 hi hz0 hz1 hz2 _ _ _ rfl hown s rfl ?c3 ?c4 ?c5 ?_)
  case c3 => unfold maxLen; omega
  case c4 => omega
  case c5 => have := hb1.size; omega
  intro v' w2 hown' hgrow _
  have hlt : b < w1.heap.size := by
    rcases Nat.lt_or_ge b w1.heap.size with h' | h'
    · exact h'
    · simp [Array.getElem?_eq_none h'] at hbk
  have hb2 : w2.heap[b]? = some (.cells #[.pointer (some ⟨b, 0, none⟩), v] 84 (0, 0)) := by
    rw [hgrow.block b hlt (fun e => hne e.symm)]
    exact hbk
  have d0 : w2.cell? ⟨b, 0, none⟩ = some (.pointer (some ⟨b, 0, none⟩)) := by rw [Lib.cell_of_heap hb2]; rfl
  have d1 : w2.cell? ⟨b, 1, none⟩ = some v := by rw [Lib.cell_of_heap hb2]; rfl
  have f1 : w2.frozen? ⟨b, 1, none⟩ = false := Lib.frozen_of_heap hb2 1
  obtain ⟨ao, n', cap, rfl⟩ : ∃ ao n' cap, v' = .slice ao n' cap := by
    rcases hown'.2 with ⟨hv, _⟩ | ⟨g, cap, cur, fz, hv, _⟩
    · exact ⟨_, _, _, hv⟩
    · exact ⟨_, _, _, hv⟩
  go_wp2
  go_ret2
  refine ⟨rfl, ?_, ?_⟩
  · exact Lib.BuilderAtF.put (T := 84) (e := 5) hB hb2 (bs' := bs ++ Lib.strCells s) (by simpa [Lib.strCells_length] using hown') (by decide)
  · exact (hb1.grown hgrow (by have := hb1.size; omega) (fun k hk => (hown.lt k hk).1)).setCell (p := ⟨b, 1, none⟩) hB _
theorem bld_below {B b : Nat} {p : Value} {bs : List Value} {w w' : World} (h : BldAt B b p bs w) (hb : Below w.heap.size w w') : BldAt B b p bs w' := by
  have hlt := h.lt
  obtain ⟨hB, v, hbk, hown, hne⟩ := h
  exact ⟨hB, v, (hb.block b hlt).trans hbk, hown.kept (row := none) ⟨hb.os, hb.tape, hb.output, hb.size, fun k hk _ => hb.block k hk⟩ (by cases hv : v.ownBlock <;> simp), hne⟩
theorem isbld_below {B b : Nat} {bs : List Value} {w w' : World} (h : IsBld B b bs w) (hb : Below w.heap.size w w') : IsBld B b bs w' := h.elim (fun x => .inl (bld_below x hb)) (fun x => .inr (bld_below x hb))
theorem isbld_new (w : World) : IsBld w.heap.size w.heap.size [] (w.alloc (.cells #[.pointer none, .slice none 0 0] 84)) :=
  .inl ⟨Nat.le_refl _, _, heap_alloc_new w _, ⟨rfl, .inl ⟨rfl, rfl⟩⟩, by simp [Value.ownBlock]⟩
theorem byteCells_app (a b : List UInt8) : Lib.byteCells (a ++ b) = Lib.byteCells a ++ Lib.byteCells b := by
  unfold Lib.byteCells
  rw [List.map_append]
end Go.Proofs.YtminbdcabacfbaaGreatDoor.V
