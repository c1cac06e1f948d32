/- Rows of things in memory: their cells; a list of bytes as a string. -/
import Derived.Test.YtdfjhhhbkgelaaaGreatDoorOwn
namespace Go.Proofs.YtdfjhhhbkgelaaaGreatDoor.V
set_option linter.unusedVariables false
set_option linter.unusedSimpArgs false
open Go.RowKit

def bs (l : List UInt8) : ByteArray := ⟨l.toArray⟩
theorem bs_list (l : List UInt8) : (bs l).toList = l := by
  rw [ByteArray.toList_eq]
  rfl
/-- A row's cells. -/
theorem o_at {W : World} {B e z n : Nat} {A : Option Addr} {c : Nat} {xs : List Value} (h : W.ownsRow B e z (.slice A n c) n xs) (hn : 0 < n) : ∃ g, A = some ⟨g, 0, none⟩ ∧ ∀ j u, xs[j]? = some u → W.cell? ⟨g, j, none⟩ = some u := by
  rcases h.2 with ⟨_, h0⟩ | ⟨g, cap, cur, hv, _, hk, _, _, _, hcur⟩
  · omega
  · injection hv with hA _ _
    refine ⟨g, hA, fun j u hu => ?_⟩
    have hlt := (List.getElem?_eq_some_iff.1 hu).1
    rw [cell_of_row W g j cur _ _ hk]
    rw [← hcur, List.getElem?_take_of_lt (by rw [← h.1]; exact hlt)] at hu
    simpa using hu

/-- A text with a first byte. -/
theorem first_facts {P : Int → Bool} {l : List UInt8} (h : ∃ c u, l = c :: u ∧ ofB P c = true) : ∃ hp : 0 < (bs l).size, P (((bs l)[0]'hp).toNat : Int) = true ∧ (bs l).toList.isEmpty = false := by
  obtain ⟨c, u, rfl, hc⟩ := h
  refine ⟨by simp [bs, ByteArray.size], hc, ?_⟩
  rw [bs_list]
  rfl
theorem flat_at {α : Type} (f : α → List Value) (z : Nat) (hz : ∀ x, (f x).length = z) : ∀ (l : List α) (m j : Nat) (p : α), l[m]? = some p → j < z → (l.flatMap f)[m * z + j]? = (f p)[j]? := by
  intro l
  induction l with
  | nil => intro m j p h; simp at h
  | cons x l ih =>
    intro m j p h hj
    rw [List.flatMap_cons]
    match m with
    | 0 =>
      simp at h
      subst h
      rw [Nat.zero_mul, Nat.zero_add, List.getElem?_append_left (by rw [hz]; exact hj)]
    | m + 1 =>
      rw [List.getElem?_append_right (by rw [hz, Nat.succ_mul]; omega), ← ih m j p (by simpa using h) hj]
      congr 1
      rw [hz, Nat.succ_mul]
      omega
/-- A row's cells of one of its things. -/
theorem flat_row {α : Type} (f : α → List Value) {z : Nat} (hz : ∀ x, (f x).length = z) {W : World} {B e n : Nat} {A : Option Addr} {c : Nat} {l : List α} (h : W.ownsRow B e z (.slice A n c) n (l.flatMap f)) (hn : n = l.length) {m : Nat} {p : α} (hm : l[m]? = some p) :
    ∃ g, A = some ⟨g, 0, none⟩ ∧ ∀ j u, j < z → (f p)[j]? = some u → W.cell? ⟨g, m * z + j, none⟩ = some u := by
  have hlt := (List.getElem?_eq_some_iff.1 hm).1
  obtain ⟨g, hA, hc⟩ := o_at h (by omega)
  exact ⟨g, hA, fun j u hj hu => hc _ u (by rw [flat_at f z hz l m j p hm hj]; exact hu)⟩

theorem o_kb {W W' : World} {B e z n : Nat} {v : Value} {xs : List Value} (h : W.ownsRow B e z v n xs) (hb : Below W.heap.size W W') : W'.ownsRow B e z v n xs := h.kept (row := none) ⟨hb.os, hb.tape, hb.output, hb.size, fun k hk _ => hb.block k hk⟩ (by cases hv : v.ownBlock <;> simp)
end Go.Proofs.YtdfjhhhbkgelaaaGreatDoor.V
