/- One thing is appended to a row that the call owns. -/
import Derived.Test.YtdfjhhhbkgelaaaGreatDoorMark
import Derived.Laws.AppendOwn
import Derived.OwnWalk
import Derived.Maps.AppendAt
import Derived.Lib.Walk
import Derived.Lib.SlBytesRow
import Derived.Lib.BufferRead
namespace Go.Proofs.YtdfjhhhbkgelaaaGreatDoor.V
set_option linter.unusedVariables false
set_option linter.unusedSimpArgs false
open Go.RowKit

theorem o_slice {W : World} {B e z n : Nat} {v : Value} {xs : List Value} (h : W.ownsRow B e z v n xs) : ∃ A c, v = .slice A n c := by
  rcases h.2 with ⟨rfl, rfl⟩ | ⟨g, cap, cur, rfl, _⟩
  · exact ⟨none, 0, rfl⟩
  · exact ⟨_, _, rfl⟩
theorem o_from {W : World} {B e z n : Nat} {v : Value} {xs : List Value} (h : W.ownsRow B e z v n xs) : ∀ k, v.ownBlock = some k → B ≤ k := fun k hk => (h.lt k hk).1
theorem o_cells {W : World} (C : Array Value) (e : TypeId) : ∀ j u, C.toList[j]? = some u → (W.alloc (.cells C e)).cell? ((⟨W.heap.size, 0, none⟩ : Addr).add j) = some u := by
  intro j u hu
  have h1 := cell_of_row (W.alloc (.cells C e)) W.heap.size j _ _ _ (heap_alloc_new W _)
  rw [← Array.getElem?_toList, hu] at h1
  have e : Addr.add ⟨W.heap.size, 0, none⟩ j = ⟨W.heap.size, j, none⟩ := by
    unfold Addr.add
    split <;> simp_all
  rw [e]
  exact h1
/-- What grew by a row that is newer than the start. -/
theorem o_grown {w0 W W' : World} {row r2 : Option Nat} (h : w0.grownBy W row) (k : W.grownBy W' r2) (hr : ∀ j, r2 = some j → w0.heap.size ≤ j) : w0.grownBy W' row :=
  ⟨k.os.trans h.os, k.tape.trans h.tape, k.output.trans h.output, Nat.le_trans h.size k.size, fun i hi hne => (k.block i (Nat.lt_of_lt_of_le hi h.size) (fun e => by have := hr i e.symm; omega)).trans (h.block i hi hne)⟩

theorem o_app {ops : Array Oper} {rest : List Oper} {o : Oper} {a : Act} {Q : Exit → Act → World → Prop} (hgd : o.guard = none) (s x : Operand) (t e : TypeId)
    (ho : o.op = .call { callee := .builtin .append, args := #[s, x], argTypes := #[t, t] }) (z : Value) (sz bytes : Nat) (ht : Tryz.prog.underlying t = some (.slice e))
    (hI : (Tryz.prog.info? e).map (fun i => (i.zero, i.size, i.bytes)) = some (some z, sz, bytes)) (hzs : z.cells.size = sz) (hsz : 0 < sz) (hby : bytes ≤ 1024)
    {q : Nat} {W : World} (C : Array Value) (hC : C.size = sz) (h1 : ∀ u ∈ C.toList, u.oneCell' = true)
    (v : Value) (n : Nat) (xs : List Value) (hs : a.eval s = v) (hown : W.ownsRow q e sz v n xs) (hx : a.eval x = .slice (some ⟨W.heap.size, 0, none⟩) 1 1)
    (hn : n < 1000000000) (hq : q ≤ W.heap.size)
    (h : ∀ A c W', W'.ownsRow q e sz (.slice A (n + 1) c) (n + 1) (xs ++ C.toList) → W.grownBy W' v.ownBlock → wpList Tryz.prog ops Q rest (a.put o.dst (.slice A (n + 1) c)) W') :
    wpList Tryz.prog ops Q (o :: rest) a (W.alloc (.cells C e)) := by
  obtain ⟨i0, hi, hz0, hz1, hz2⟩ := info_parts hI
  refine wpList_append_own_at _ hgd s x t ho q e i0 z sz bytes ht hi hz0 hz1 hz2 hzs hsz v n xs hs (hown.alloc _) ⟨W.heap.size, 0, none⟩ 1 1 C.toList hx ?_ (o_cells C e) h1 ?_ ?_ ?_ ?_
  · rw [Nat.one_mul, ← hC]; rfl
  · unfold maxLen; omega
  · have : (n + 1) * bytes ≤ 1000000000 * 1024 := Nat.mul_le_mul (by omega) hby
    omega
  · rw [World.size_alloc]; omega
  intro v2 w2 hown2 hg2 _ _
  obtain ⟨A2, c2, rfl⟩ := o_slice hown2
  exact h A2 c2 w2 hown2 (grown_trans (World.grownBy_alloc _ _ _) hg2)

/-- Bytes as they lie in cells. -/
def u8V (l : List UInt8) : List Value := l.map fun b => .int .u8 (b.toNat : Int)
theorem u8V_length (l : List UInt8) : (u8V l).length = l.length := by simp [u8V]
theorem u8V_snoc (l : List UInt8) (b : UInt8) : u8V (l ++ [b]) = u8V l ++ [.int .u8 (b.toNat : Int)] := by simp [u8V]
theorem u8_info : (Tryz.prog.info? 5).map (fun i => (i.zero, i.size, i.bytes)) = some (some (.int .u8 0), 1, 1) := by kernel_rfl
/-- What is owned is read as a string. -/
theorem u8_conv {q n c : Nat} {A : Option Addr} {W : World} {xs : List UInt8} (h : W.ownsRow q 5 1 (.slice A n c) n (u8V xs)) (hx : 0 < xs.length) : (convert 48 9 (.slice A n c)).run Tryz.prog W = .ok (.string ⟨xs.toArray⟩) W := by
  have hl : xs.length = n := by have := h.1; rw [u8V_length, Nat.mul_one] at this; exact this
  rcases h.2 with ⟨_, h2⟩ | ⟨g, cap, cur, hv, hg, hk, hnc, _, hcs, hcur⟩
  · omega
  · cases hv
    have hs : (⟨xs.toArray⟩ : ByteArray).size = n := by rw [← hl]; exact List.size_toArray
    rw [← hs]
    refine Lib.run_convert_whole (P := Tryz.prog) _ 48 5 9 Tryz.underlying48 Tryz.underlying5 Tryz.underlying9 g 0 ⟨xs.toArray⟩ (fun i hi => ?_) _
    have hi' : i < xs.length := by rw [hl, ← hs]; exact hi
    have h1 := cell_of_row W g i _ _ _ hk
    have h2 : cur[i]? = (u8V xs)[i]? := by
      rw [← hcur, Nat.mul_one, List.getElem?_take_of_lt (by omega)]
      simp
    rw [h2] at h1
    rw [Nat.zero_add, h1]
    simp [u8V, hi', ByteArray.getElem_eq_getElem_data]

theorem u8_nil (W : World) : (convert 48 9 (.slice none 0 0)).run Tryz.prog W = .ok (.string ⟨#[]⟩) W := Lib.run_convert_nil_bytes W _ _ _ 0 Tryz.underlying48 Tryz.underlying5 Tryz.underlying9
theorem o_keep {W W' : World} {q e z n X : Nat} {v : Value} {xs : List Value} (h : W.ownsRow q e z v n xs) (hg : W.grownBy W' (some X)) (hX : X < q) : W'.ownsRow q e z v n xs := by
  refine h.kept hg ?_
  cases hv : v.ownBlock with
  | none => exact .inl rfl
  | some g => exact .inr (fun he => by have := o_from h g hv; have : g = X := Option.some.inj he; omega)

theorem q39 (t : List UInt8) : quotL (39 :: t) = some ([], t) := by cases t <;> rfl
theorem q10 (t : List UInt8) : quotL (10 :: t) = none := by cases t <;> rfl
theorem q92 (d : UInt8) (u : List UInt8) : quotL (92 :: d :: u) = if d == 110 || d == 39 || d == 92 then (quotL u).map fun p => ((if d == 110 then 10 else d) :: p.1, p.2) else none := by
  rw [quotL]
  rw [if_neg (by decide), if_neg (by decide), if_pos (by decide)]
theorem qother (c : UInt8) (t : List UInt8) (h1 : (c == 39) = false) (h2 : (c == 10) = false) (h3 : (c == 92) = false) : quotL (c :: t) = (quotL t).map fun p => (c :: p.1, p.2) := by
  cases t with
  | nil => simp [quotL, h1]
  | cons d u =>
    rw [quotL]
    simp [h1, h2, h3]
theorem index_esc (c : UInt8) : decide (Lib.indexByte [110, 39, 92] c < 0) = !(c == 110 || c == 39 || c == 92) := by
  simp only [Lib.indexByte]
  by_cases h1 : c = 110
  · subst h1; decide
  · by_cases h2 : c = 39
    · subst h2; decide
    · by_cases h3 : c = 92
      · subst h3; decide
      · have e1 : (110 == c) = false := by simpa using Ne.symm h1
        have e2 : (39 == c) = false := by simpa using Ne.symm h2
        have e3 : (92 == c) = false := by simpa using Ne.symm h3
        simp [e1, e2, e3, h1, h2, h3]
end Go.Proofs.YtdfjhhhbkgelaaaGreatDoor.V
