/- An argument that is a list of tokens, opened. -/
import Derived.Test.YtdfjhhhbkgelaaaGreatDoorOpen5
import Derived.Test.YtdfjhhhbkgelaaaGreatDoorJoins
import Derived.Deep.Slices
namespace Go.Proofs.YtdfjhhhbkgelaaaGreatDoor.V
set_option linter.unusedSimpArgs false
set_option linter.unusedVariables false
open Go.ChangeShapes Go.WideShapes Go.ChangeAt Go.RowKit
set_option maxRecDepth 100000

theorem piece1 {cs : List Value} {i : Nat} {v : Value} (h : (cs.drop i).take 1 = [v]) : cs[i]? = some v := by
  have := congrArg (·[0]?) h
  simpa [List.getElem?_take, List.getElem?_drop] using this
/-- A token that is read. -/
theorem trod_tok {H : Type} {enc : TypeId × Value → H} {w : World} {base : Nat} {spare : Nat → Bool} {held : Bool} {fuel : Nat} {cs : List Value} {x : DataW H × List MemPlace} (h : DataW.trod enc Tryz.prog w base spare held fuel 35 cs = some x) :
    ∃ t : GT, cs[0]? = some (.int .i64 t.k) ∧ cs[1]? = some (.string t.s) ∧ cs[2]? = some (.int .i64 t.n) ∧ cs[3]? = some (.bool t.q) ∧ cs[4]? = some (.int .i64 t.p) ∧
      x.1 = .agg [.lit (.int .i64 t.k), .lit (.string t.s.data.toList), .lit (.int .i64 t.n), .lit (.bool t.q), .lit (.int .i64 t.p)] ∧ (Lit.int .i64 t.n).wf = true := by
  obtain ⟨xs, n, _, rfl, hl, hlen, hf⟩ := DataW.trod_struct (Tryz.underlying35) h
  match xs, hlen with
  | [y0, y1, y2, y3, y4], _ =>
    obtain ⟨k, e0, g0, _⟩ := DataW.trod_int (Tryz.underlying3) (show _ = some y0 from hf 0 _ rfl)
    obtain ⟨s, e1, g1, hs⟩ := DataW.trod_string (Tryz.underlying9) (show _ = some y1 from hf 1 _ rfl)
    obtain ⟨m, e2, g2, hm⟩ := DataW.trod_int (Tryz.underlying2) (show _ = some y2 from hf 2 _ rfl)
    obtain ⟨q, e3, g3⟩ := DataW.trod_bool (Tryz.underlying4) (show _ = some y3 from hf 3 _ rfl)
    obtain ⟨p, e4, g4, _⟩ := DataW.trod_int (Tryz.underlying3) (show _ = some y4 from hf 4 _ rfl)
    refine ⟨⟨k, s, m, q, p⟩, piece1 (by exact e0), piece1 (by exact e1), piece1 (by exact e2), piece1 (by exact e3), piece1 (by exact e4), ?_, hm⟩
    simp only [List.map_cons, List.map_nil]
    rw [g0, g1, g2, g3, g4]
theorem pick_list {α : Type} {Q : Nat → α → Prop} : ∀ n : Nat, (∀ i, i < n → ∃ a, Q i a) → ∃ xs : List α, xs.length = n ∧ ∀ i a, xs[i]? = some a → Q i a
  | 0, _ => ⟨[], rfl, fun i a h => by simp at h⟩
  | n + 1, h => by
    obtain ⟨xs, hl, hx⟩ := pick_list n (fun i hi => h i (by omega))
    obtain ⟨a, ha⟩ := h n (by omega)
    refine ⟨xs ++ [a], by simp [hl], fun i b hb => ?_⟩
    rcases Nat.lt_or_ge i n with hi | hi
    · rw [List.getElem?_append_left (by omega)] at hb
      exact hx i b hb
    · have hi' : i = n := by
        have := (List.getElem?_eq_some_iff.1 hb).1
        simp [hl] at this
        omega
      subst hi'
      rw [← hl] at hb
      have hb' : a = b := by simpa using hb
      subst hb'
      exact ha
theorem bulk_mem {H : Type} {e : DataW H} : ∀ {l : List (DataW H)}, e ∈ l → Rows.uptoBulk e ≤ Rows.uptoBulkAll l
  | [], h => by cases h
  | x :: r, h => by
    simp only [Rows.uptoBulkAll]
    rcases List.mem_cons.1 h with rfl | h
    · omega
    · have := bulk_mem h
      omega
/-- A list of tokens that came in. -/
theorem arg_toks {H : Type} {enc : TypeId × Value → H} {W : World} {r : Reach} {b0 base : Nat} {v : Value} {y : DataW H} {ps : List MemPlace} {sp : Nat → Bool} {held : Bool} (hv : Value.okWide Tryz.prog W r b0 23 v)
    (h : DataW.Trod enc Tryz.prog W base sp held 23 v y ps) : ∃ (L : List GT) (A : Option Addr) (n c : Nat), v = .slice A n c ∧ n = L.length ∧ ToksAt W A L ∧ ∀ t ∈ L, (t.s.size ≤ Rows.uptoBulk y) ∧ -9223372036854775808 ≤ t.n ∧ t.n ≤ 9223372036854775807 := by
  obtain ⟨A, len, cap, rfl⟩ := okWide_slice (Tryz.underlying23) hv
  obtain ⟨fuel, hf⟩ := h
  rcases Go.Deep.open_slice (Tryz.underlying23) hf with ⟨h1, h2⟩ | ⟨a, len', cap', m, n, D, Pl, h1, hb, hl, hm, hmm, h2, hx⟩
  · have h1' : Value.slice A len cap = Value.slice none 0 0 := by simpa [Value.cells] using h1
    cases h1'
    exact ⟨[], none, 0, 0, rfl, rfl, fun j t hj => by simp at hj, fun t ht => by cases ht⟩
  · have h1' : Value.slice A len cap = Value.slice (some a) len' cap' := by simpa [Value.cells] using h1
    cases h1'
    have hlm : len ≤ m := by
      rw [hmm]
      split <;> omega
    have hc5 : Tryz.prog.cellsOf 35 = 5 := by kernel_rfl
    rw [hc5] at hx
    obtain ⟨L, hL, hLs⟩ := pick_list (Q := fun i (t : GT) => TokHere W (a.add (i * 5)) t ∧ D i = .agg [.lit (.int .i64 t.k), .lit (.string t.s.data.toList), .lit (.int .i64 t.n), .lit (.bool t.q), .lit (.int .i64 t.p)] ∧ (Lit.int .i64 t.n).wf = true) len (fun i hi => by
      obtain ⟨cs', k1, k2⟩ := hx i (by omega)
      obtain ⟨t, e0, e1, e2, e3, e4, hd, hw⟩ := trod_tok k2
      obtain ⟨_, _, g3⟩ := World.cells?_some k1
      have ad : ∀ j : Nat, 0 < j → (a.add (i * 5)).add j = ⟨(a.add (i * 5)).block, (a.add (i * 5)).off + j, none⟩ := fun j hj => by
        rw [show (a.add (i * 5)).add j = if j = 0 then a.add (i * 5) else { a.add (i * 5) with off := (a.add (i * 5)).off + j, spot := none } from rfl, if_neg (by omega)]
      refine ⟨t, ⟨?_, ?_, ?_, ?_, ?_⟩, hd, hw⟩
      · exact (g3 0 (by omega)).trans e0
      · rw [← ad 1 (by omega)]; exact (g3 1 (by omega)).trans e1
      · rw [← ad 2 (by omega)]; exact (g3 2 (by omega)).trans e2
      · rw [← ad 3 (by omega)]; exact (g3 3 (by omega)).trans e3
      · rw [← ad 4 (by omega)]; exact (g3 4 (by omega)).trans e4)
    refine ⟨L, some a, len, cap, rfl, hL.symm, fun j t hj => ⟨a, rfl, (hLs j t hj).1⟩, fun t ht => ?_⟩
    obtain ⟨i, hi⟩ := List.getElem?_of_mem ht
    obtain ⟨_, hD, hw⟩ := hLs i t hi
    have hil : i < len := by rw [← hL]; exact (List.getElem?_eq_some_iff.1 hi).1
    refine ⟨?_, ?_⟩
    · have hy : y = .slice ((List.range len).map D) ((List.range (m - len)).map fun j => D (len + j)) := (Prod.mk.inj h2).1
      have hmem : D i ∈ (List.range len).map D := List.mem_map.2 ⟨i, List.mem_range.2 hil, rfl⟩
      have h3 := bulk_mem hmem
      rw [hy, Rows.uptoBulk]
      rw [hD] at h3
      simp only [Rows.uptoBulk, Rows.uptoBulkAll] at h3
      have h4 : t.s.data.toList.length = t.s.size := by simp
      omega
    · simp only [Lit.wf, Bool.and_eq_true, decide_eq_true_eq] at hw
      have h0 : IntKind.i64.min = -9223372036854775808 := rfl
      have h1 : IntKind.i64.max = 9223372036854775807 := rfl
      omega
theorem toks_bulk {H : Type} {y : DataW H} {l : List (DataW H)} (h : y ∈ l) (hk : Rows.uptoBulkAll l ≤ 1048576) {L : List GT} (hL : ∀ t ∈ L, (t.s.size ≤ Rows.uptoBulk y) ∧ -9223372036854775808 ≤ t.n ∧ t.n ≤ 9223372036854775807) : ∀ t ∈ L, t.s.size ≤ 1048576 ∧ -9223372036854775808 ≤ t.n ∧ t.n ≤ 9223372036854775807 :=
  fun t ht => ⟨Nat.le_trans (hL t ht).1 (Nat.le_trans (bulk_mem h) hk), (hL t ht).2⟩
end Go.Proofs.YtdfjhhhbkgelaaaGreatDoor.V
