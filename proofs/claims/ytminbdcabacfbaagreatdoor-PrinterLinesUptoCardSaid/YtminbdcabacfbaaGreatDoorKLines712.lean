/- Arguments that are atoms, literals, rules, facts, programs, opened. Rules behind rules in memory. lambrequinlaw07.PrinterLines: lines, and a program behind a program. -/
import Derived.Deep.Slices
import Derived.Deep.DeepCutAuto
import Derived.OneCell
import Derived.IntWalk
import Derived.Test.YtminbdcabacfbaaGreatDoorKLines711
namespace Go.Proofs.YtminbdcabacfbaaGreatDoor.V
set_option linter.unusedSimpArgs false
set_option linter.unusedVariables false
open Go.ChangeShapes Go.WideShapes Go.ChangeAt Go.RowKit
set_option maxRecDepth 100000

section
variable {H : Type} {enc : TypeId × Value → H} {W : World} {base : Nat} {sp : Nat → Bool} {held : Bool} {fuel : Nat}
theorem bulk_mem {e : DataW H} : ∀ {l : List (DataW H)}, e ∈ l → Rows.uptoBulk e ≤ Rows.uptoBulkAll l
  | [], h => by cases h
  | x :: r, h => by
    simp only [Rows.uptoBulkAll]
    rcases List.mem_cons.1 h with rfl | h
    · omega
    · have := bulk_mem h
      omega
theorem pick_list {α : Type} {Q : Nat → α → Prop} : ∀ n : Nat, (∀ i, i < n → ∃ a, Q i a) → ∃ xs : List α, xs.length = n ∧ ∀ i a, xs[i]? = some a → Q i a
  | 0, _ => ⟨[], rfl, fun i a h => by simp at h⟩
  | n + 1, h => by
    obtain ⟨xs, hl, hx⟩ := pick_list n (fun i hi => h i (by omega))
    obtain ⟨a, ha⟩ := h n (by omega)
    refine ⟨xs ++ [a], by simp [hl], fun i b hb => ?_⟩
    rcases Nat.lt_or_ge i n with hi | hi
    · rw [List.getElem?_append_left (by omega)] at hb
      exact hx i b hb
    · have hi' : i = n := by
        have := (List.getElem?_eq_some_iff.1 hb).1
        simp [hl] at this
        omega
      subst hi'
      rw [← hl] at hb
      have hb' : a = b := by simpa using hb
      subst hb'
      exact ha
theorem range_bulk {α : Type} (w : α → Nat) (D : Nat → DataW H) : ∀ (L : List α) (k : Nat), (∀ i a, L[i]? = some a → w a ≤ 26 * Rows.uptoBulk (D (k + i))) → (L.map w).sum ≤ 26 * Rows.uptoBulkAll ((List.range' k L.length).map D)
  | [], k, _ => by simp
  | a :: r, k, h => by
    have h0 := h 0 a rfl
    have h1 := range_bulk w D r (k + 1) fun i b hb => by
      have := h (i + 1) b (by simpa using hb)
      rw [show k + 1 + i = k + (i + 1) by omega]
      exact this
    rw [List.map_cons, List.sum_cons, List.length_cons, List.range'_succ, List.map_cons, Rows.uptoBulkAll]
    rw [Nat.add_zero] at h0
    omega
/-- What lies in a list's cells, thing by thing. -/
theorem trod_list {α : Type} {t e : TypeId} {sz : Nat} {cs : List Value} {x : DataW H × List MemPlace} (Q : α → List Value → Prop) (w : α → Nat) (ht : Tryz.prog.underlying t = some (.slice e)) (hsz : Tryz.prog.cellsOf e = sz)
    (hone : ∀ (fuel : Nat) (cs' : List Value) (x' : DataW H × List MemPlace), DataW.trod enc Tryz.prog W base sp held fuel e cs' = some x' → ∃ a, Q a cs' ∧ w a ≤ 26 * Rows.uptoBulk x'.1)
    (h : DataW.trod enc Tryz.prog W base sp held fuel t cs = some x) :
    ∃ (A : Option Addr) (n c : Nat) (L : List α), cs = [.slice A n c] ∧ n = L.length ∧ n ≤ c ∧ (∀ j a, L[j]? = some a → ∃ ad cs', A = some ad ∧ Q a cs' ∧ cs'.length = sz ∧ (∀ u, cs'[0]? = some u → W.cell? (ad.add (j * sz)) = some u) ∧ ∀ i u, 0 < i → cs'[i]? = some u → W.cell? ⟨(ad.add (j * sz)).block, (ad.add (j * sz)).off + i, none⟩ = some u) ∧ (L.map w).sum + 26 ≤ 26 * Rows.uptoBulk x.1 ∧ (A = none → n = 0 ∧ c = 0) := by
  rcases Go.Deep.open_slice ht h with ⟨rfl, rfl⟩ | ⟨a, len, cap, m, n, D, Pl, rfl, hb, hl, hm, hmm, rfl, hx⟩
  · exact ⟨none, 0, 0, [], rfl, rfl, Nat.le_refl _, fun j a h => by simp at h, by simp [Rows.uptoBulk], fun _ => ⟨rfl, rfl⟩⟩
  · have hlm : len ≤ m := by
      rw [hmm]
      split <;> omega
    rw [hsz] at hx
    obtain ⟨L, hL, hLs⟩ := pick_list (Q := fun i (b : α) => (∃ cs', Q b cs' ∧ cs'.length = sz ∧ ∀ k, k < sz → W.cell? ((a.add (i * sz)).add k) = cs'[k]?) ∧ w b ≤ 26 * Rows.uptoBulk (D i)) len (fun i hi => by
      obtain ⟨cs', k1, k2⟩ := hx i (by omega)
      obtain ⟨b, hb1, hb2⟩ := hone n cs' _ k2
      obtain ⟨_, g2, g3⟩ := World.cells?_some k1
      exact ⟨b, ⟨cs', hb1, g2, g3⟩, hb2⟩)
    refine ⟨some a, len, cap, L, rfl, hL.symm, hl, fun j b hj => ?_, ?_, fun h => by cases h⟩
    · obtain ⟨⟨cs', q1, q2, q3⟩, _⟩ := hLs j b hj
      refine ⟨a, cs', rfl, q1, q2, fun u hu => ?_, fun i u hi hu => ?_⟩
      · have hlt := (List.getElem?_eq_some_iff.1 hu).1
        exact (q3 0 (by omega)).trans hu
      · have hlt := (List.getElem?_eq_some_iff.1 hu).1
        have := (q3 i (by omega)).trans hu
        rw [show (a.add (j * sz)).add i = if i = 0 then a.add (j * sz) else { a.add (j * sz) with off := (a.add (j * sz)).off + i, spot := none } from rfl, if_neg (by omega)] at this
        exact this
    · have h1 := range_bulk w D L 0 fun i b hb => by
        rw [Nat.zero_add]
        exact (hLs i b hb).2
      rw [hL, ← List.range_eq_range'] at h1
      simp only [Rows.uptoBulk]
      omega
theorem lit_ok64 {n : Int} (h : (Lit.int .i64 n).wf = true) : nOk n := by
  simp only [Lit.wf, Bool.and_eq_true, decide_eq_true_eq] at h
  have h0 : IntKind.i64.min = -9223372036854775808 := rfl
  have h1 : IntKind.i64.max = 9223372036854775807 := rfl
  unfold nOk
  omega
theorem bs_of (s : ByteArray) : bs s.data.toList = s := of_bytes s
/-- Pieces in line are the whole. -/
theorem drop_split {cs : List Value} {k m : Nat} {a : List Value} (h : (cs.drop k).take m = a) (ha : a.length = m) : cs.drop k = a ++ cs.drop (k + m) := by
  rw [← List.take_append_drop m (cs.drop k), h, List.drop_drop]
theorem drop_all {cs : List Value} {n : Nat} (h : cs.length = n) : cs.drop n = [] := List.drop_eq_nil_of_le (by omega)
theorem trod_val {cs : List Value} {x : DataW H × List MemPlace} (h : DataW.trod enc Tryz.prog W base sp held fuel 43 cs = some x) :
    ∃ (s : Bool) (y : List UInt8) (n : Int), cs = [.bool s, .string (bs y), .int .i64 n] ∧ nOk n ∧ y.length + 4 ≤ Rows.uptoBulk x.1 := by
  obtain ⟨xs, n, _, rfl, hl, hlen, hf⟩ := DataW.trod_struct (Tryz.underlying43) h
  match xs, hlen with
  | [y0, y1, y2], _ =>
    obtain ⟨k, e0, g0⟩ := DataW.trod_bool (Tryz.underlying4) (show _ = some y0 from hf 0 _ rfl)
    obtain ⟨s, e1, g1, hs⟩ := DataW.trod_string (Tryz.underlying9) (show _ = some y1 from hf 1 _ rfl)
    obtain ⟨m, e2, g2, hm⟩ := DataW.trod_int (Tryz.underlying2) (show _ = some y2 from hf 2 _ rfl)
    refine ⟨k, s.data.toList, m, ?_, lit_ok64 hm, ?_⟩
    · have s0 := drop_split (k := 0) (m := 1) (by exact e0) rfl
      have s1 := drop_split (k := 1) (m := 1) (by exact e1) rfl
      have s2 := drop_split (k := 2) (m := 1) (by exact e2) rfl
      rw [drop_all (n := 3) (hl.trans (by kernel_rfl))] at s2
      rw [List.drop_zero] at s0
      rw [s0, s1, s2, bs_of]
      rfl
    · simp only [List.map_cons, List.map_nil, Rows.uptoBulk, Rows.uptoBulkAll]
      rw [g0, g1, g2]
      simp only [Rows.uptoBulk]
      omega
theorem trod_term {cs : List Value} {x : DataW H × List MemPlace} (h : DataW.trod enc Tryz.prog W base sp held fuel 45 cs = some x) :
    ∃ t : TermL, (cs = termC t ∧ nOk t.n) ∧ wT t ≤ 26 * Rows.uptoBulk x.1 := by
  obtain ⟨xs, n, _, rfl, hl, hlen, hf⟩ := DataW.trod_struct (Tryz.underlying45) h
  match xs, hlen with
  | [y0, y1, y2], _ =>
    obtain ⟨k, e0, g0⟩ := DataW.trod_bool (Tryz.underlying4) (show _ = some y0 from hf 0 _ rfl)
    obtain ⟨s, e1, g1, hs⟩ := DataW.trod_string (Tryz.underlying9) (show _ = some y1 from hf 1 _ rfl)
    obtain ⟨vs, vy, vn, e2, hn, hb⟩ := trod_val (show _ = some y2 from hf 2 _ rfl)
    refine ⟨⟨k, s.data.toList, vs, vy, vn⟩, ⟨?_, hn⟩, ?_⟩
    · have s0 := drop_split (k := 0) (m := 1) (by exact e0) rfl
      have s1 := drop_split (k := 1) (m := 1) (by exact e1) rfl
      have s2 := drop_split (k := 2) (m := 3) (by exact e2) rfl
      rw [drop_all (n := 5) (hl.trans (by kernel_rfl))] at s2
      rw [List.drop_zero] at s0
      rw [s0, s1, s2]
      simp only [termC, bs_of]
      rfl
    · simp only [List.map_cons, List.map_nil, Rows.uptoBulk, Rows.uptoBulkAll]
      rw [g0, g1]
      simp only [Rows.uptoBulk, wT]
      omega
theorem trod_terms {cs : List Value} {x : DataW H × List MemPlace} (h : DataW.trod enc Tryz.prog W base sp held fuel 23 cs = some x) :
    ∃ (A : Option Addr) (n c : Nat) (L : List TermL), cs = [.slice A n c] ∧ n = L.length ∧ n ≤ c ∧ TermsRd W A L ∧ (∀ t ∈ L, nOk t.n) ∧ (L.map wT).sum + 26 ≤ 26 * Rows.uptoBulk x.1 := by
  obtain ⟨A, n, c, L, h1, h2, h3, h4, h5, h6⟩ := trod_list (fun (t : TermL) cs' => cs' = termC t ∧ nOk t.n) wT (Tryz.underlying23) (by kernel_rfl) (fun f cs' x' hh => trod_term hh) h
  refine ⟨A, n, c, L, h1, h2, h3, fun j t hj => ?_, fun t ht => ?_, h5⟩
  · obtain ⟨ad, cs', rfl, ⟨rfl, _⟩, _, q0, q⟩ := h4 j t hj
    exact ⟨ad, rfl, q0 _ rfl, q 1 _ (by omega) rfl, q 2 _ (by omega) rfl, q 3 _ (by omega) rfl, q 4 _ (by omega) rfl⟩
  · obtain ⟨j, hj⟩ := List.getElem?_of_mem ht
    obtain ⟨_, _, _, ⟨_, hn⟩, _⟩ := h4 j t hj
    exact hn
/-- An atom's cells. -/
theorem trod_atom {cs : List Value} {x : DataW H × List MemPlace} (h : DataW.trod enc Tryz.prog W base sp held fuel 25 cs = some x) :
    ∃ (a : AtomL) (A : Option Addr) (n c : Nat), cs = [.string (bs a.p), .slice A n c] ∧ n = a.a.length ∧ n ≤ c ∧ TermsRd W A a.a ∧ nA a ∧ wA a ≤ 26 * Rows.uptoBulk x.1 := by
  obtain ⟨xs, n, _, rfl, hl, hlen, hf⟩ := DataW.trod_struct (Tryz.underlying25) h
  match xs, hlen with
  | [y0, y1], _ =>
    obtain ⟨s, e0, g0, hs⟩ := DataW.trod_string (Tryz.underlying9) (show _ = some y0 from hf 0 _ rfl)
    obtain ⟨A, n', c, L, e1, h2, h3, h4, h5, h6⟩ := trod_terms (show _ = some y1 from hf 1 _ rfl)
    refine ⟨⟨s.data.toList, L⟩, A, n', c, ?_, h2, h3, h4, h5, ?_⟩
    · have s0 := drop_split (k := 0) (m := 1) (by exact e0) rfl
      have s1 := drop_split (k := 1) (m := 1) (by exact e1) rfl
      rw [drop_all (n := 2) (hl.trans (by kernel_rfl))] at s1
      rw [List.drop_zero] at s0
      rw [s0, s1, bs_of]
      rfl
    · simp only [List.map_cons, List.map_nil, Rows.uptoBulk, Rows.uptoBulkAll]
      rw [g0]
      simp only [Rows.uptoBulk, wA]
      omega
/-- A literal's cells, wherever its atom's terms lie. -/
def LitCs (W : World) (l : LitL) (cs : List Value) : Prop := ∃ (kk : Int) (A : Option Addr) (n c : Nat), kk.toNat = l.k ∧ n = l.a.a.length ∧ n ≤ c ∧ TermsRd W A l.a.a ∧ cs = [.int .i64 kk, .string (bs l.a.p), .slice A n c, .string (bs l.o), .bool l.l.v, .string (bs l.l.x), .bool l.l.s, .string (bs l.l.t), .int .i64 l.l.n, .bool l.r.v, .string (bs l.r.x), .bool l.r.s, .string (bs l.r.t), .int .i64 l.r.n]
theorem trod_lit {cs : List Value} {x : DataW H × List MemPlace} (h : DataW.trod enc Tryz.prog W base sp held fuel 47 cs = some x) :
    ∃ l : LitL, (LitCs W l cs ∧ nL l) ∧ wL l ≤ 26 * Rows.uptoBulk x.1 := by
  obtain ⟨xs, n, _, rfl, hl, hlen, hf⟩ := DataW.trod_struct (Tryz.underlying47) h
  match xs, hlen with
  | [y0, y1, y2, y3, y4], _ =>
    obtain ⟨kk, e0, g0, _⟩ := DataW.trod_int (Tryz.underlying3) (show _ = some y0 from hf 0 _ rfl)
    obtain ⟨a, A, n', c, e1, h2, h3, h4, h5, h6⟩ := trod_atom (show _ = some y1 from hf 1 _ rfl)
    obtain ⟨s, e2, g2, hs⟩ := DataW.trod_string (Tryz.underlying9) (show _ = some y2 from hf 2 _ rfl)
    obtain ⟨tl, ⟨e3, n3⟩, w3⟩ := trod_term (show _ = some y3 from hf 3 _ rfl)
    obtain ⟨tr, ⟨e4, n4⟩, w4⟩ := trod_term (show _ = some y4 from hf 4 _ rfl)
    refine ⟨⟨kk.toNat, a, s.data.toList, tl, tr⟩, ⟨⟨kk, A, n', c, rfl, h2, h3, h4, ?_⟩, h5, n3, n4⟩, ?_⟩
    · have s0 := drop_split (k := 0) (m := 1) (by exact e0) rfl
      have s1 := drop_split (k := 1) (m := 2) (by exact e1) rfl
      have s2 := drop_split (k := 3) (m := 1) (by exact e2) rfl
      have s3 := drop_split (k := 4) (m := 5) (by exact e3) rfl
      have s4 := drop_split (k := 9) (m := 5) (by exact e4) rfl
      rw [drop_all (n := 14) (hl.trans (by kernel_rfl))] at s4
      rw [List.drop_zero] at s0
      rw [s0, s1, s2, s3, s4, bs_of]
      rfl
    · simp only [List.map_cons, List.map_nil, Rows.uptoBulk, Rows.uptoBulkAll]
      rw [g0, g2]
      simp only [Rows.uptoBulk, wL]
      omega
theorem trod_lits {cs : List Value} {x : DataW H × List MemPlace} (h : DataW.trod enc Tryz.prog W base sp held fuel 48 cs = some x) :
    ∃ (A : Option Addr) (n c : Nat) (L : List LitL), cs = [.slice A n c] ∧ n = L.length ∧ n ≤ c ∧ LitsRd W A L ∧ (∀ t ∈ L, nL t) ∧ (L.map wL).sum + 26 ≤ 26 * Rows.uptoBulk x.1 := by
  obtain ⟨A, n, c, L, h1, h2, h3, h4, h5, h6⟩ := trod_list (fun (t : LitL) cs' => LitCs W t cs' ∧ nL t) wL (Tryz.underlying48) (by kernel_rfl) (fun f cs' x' hh => trod_lit hh) h
  refine ⟨A, n, c, L, h1, h2, h3, fun j t hj => ?_, fun t ht => ?_, h5⟩
  · obtain ⟨ad, cs', rfl, ⟨⟨kk, Aa, na, ca, k1, k2, k3, k4, rfl⟩, _⟩, _, q0, q⟩ := h4 j t hj
    exact ⟨ad, rfl, ⟨kk, q0 _ rfl, k1⟩, ⟨Aa, na, ca, k2, k3, q 1 _ (by omega) rfl, q 2 _ (by omega) rfl, k4⟩, q 3 _ (by omega) rfl, ⟨q 4 _ (by omega) rfl, q 5 _ (by omega) rfl, q 6 _ (by omega) rfl, q 7 _ (by omega) rfl, q 8 _ (by omega) rfl⟩, ⟨q 9 _ (by omega) rfl, q 10 _ (by omega) rfl, q 11 _ (by omega) rfl, q 12 _ (by omega) rfl, q 13 _ (by omega) rfl⟩⟩
  · obtain ⟨j, hj⟩ := List.getElem?_of_mem ht
    obtain ⟨_, _, _, ⟨_, hn⟩, _⟩ := h4 j t hj
    exact hn
/-- A rule's cells. -/
def RuleCs (W : World) (r : RuleL) (cs : List Value) : Prop := ∃ (A : Option Addr) (n c : Nat) (B : Option Addr) (m d : Nat), n = r.h.a.length ∧ n ≤ c ∧ m = r.b.length ∧ m ≤ d ∧ TermsRd W A r.h.a ∧ LitsRd W B r.b ∧ cs = [.string (bs r.h.p), .slice A n c, .slice B m d]
theorem trod_rule {cs : List Value} {x : DataW H × List MemPlace} (h : DataW.trod enc Tryz.prog W base sp held fuel 50 cs = some x) :
    ∃ r : RuleL, (RuleCs W r cs ∧ nR r) ∧ wR r ≤ 26 * Rows.uptoBulk x.1 := by
  obtain ⟨xs, n, _, rfl, hl, hlen, hf⟩ := DataW.trod_struct (Tryz.underlying50) h
  match xs, hlen with
  | [y0, y1], _ =>
    obtain ⟨a, A, n', c, e0, h2, h3, h4, h5, h6⟩ := trod_atom (show _ = some y0 from hf 0 _ rfl)
    obtain ⟨B, m, d, L, e1, k2, k3, k4, k5, k6⟩ := trod_lits (show _ = some y1 from hf 1 _ rfl)
    refine ⟨⟨a, L⟩, ⟨⟨A, n', c, B, m, d, h2, h3, k2, k3, h4, k4, ?_⟩, h5, k5⟩, ?_⟩
    · have s0 := drop_split (k := 0) (m := 2) (by exact e0) rfl
      have s1 := drop_split (k := 2) (m := 1) (by exact e1) rfl
      rw [drop_all (n := 3) (hl.trans (by kernel_rfl))] at s1
      rw [List.drop_zero] at s0
      rw [s0, s1]
      rfl
    · simp only [List.map_cons, List.map_nil, Rows.uptoBulk, Rows.uptoBulkAll, wR]
      omega
theorem trod_rules {cs : List Value} {x : DataW H × List MemPlace} (h : DataW.trod enc Tryz.prog W base sp held fuel 34 cs = some x) :
    ∃ (A : Option Addr) (n c : Nat) (L : List RuleL), cs = [.slice A n c] ∧ n = L.length ∧ n ≤ c ∧ RulesRd W A L ∧ (∀ t ∈ L, nR t) ∧ (L.map wR).sum + 26 ≤ 26 * Rows.uptoBulk x.1 ∧ (A = none → n = 0 ∧ c = 0) := by
  obtain ⟨A, n, c, L, h1, h2, h3, h4, h5, h6⟩ := trod_list (fun (t : RuleL) cs' => RuleCs W t cs' ∧ nR t) wR (Tryz.underlying34) (by kernel_rfl) (fun f cs' x' hh => trod_rule hh) h
  refine ⟨A, n, c, L, h1, h2, h3, fun j t hj => ?_, fun t ht => ?_, h5, h6⟩
  · obtain ⟨ad, cs', rfl, ⟨⟨Aa, na, ca, Bb, mb, cb, k1, k2, k3, k4, k5, k6, rfl⟩, _⟩, _, q0, q⟩ := h4 j t hj
    exact ⟨ad, rfl, ⟨Aa, na, ca, k1, k2, q0 _ rfl, q 1 _ (by omega) rfl, k5⟩, Bb, mb, cb, k3, k4, q 2 _ (by omega) rfl, k6⟩
  · obtain ⟨j, hj⟩ := List.getElem?_of_mem ht
    obtain ⟨_, _, _, ⟨_, hn⟩, _⟩ := h4 j t hj
    exact hn
theorem trod_decl {cs : List Value} {x : DataW H × List MemPlace} (h : DataW.trod enc Tryz.prog W base sp held fuel 86 cs = some x) :
    ∃ d : DeclL, (cs = declC d ∧ nOk d.n) ∧ wD d ≤ 26 * Rows.uptoBulk x.1 := by
  obtain ⟨xs, n, _, rfl, hl, hlen, hf⟩ := DataW.trod_struct (Tryz.underlying86) h
  match xs, hlen with
  | [y0, y1], _ =>
    obtain ⟨s, e0, g0, hs⟩ := DataW.trod_string (Tryz.underlying9) (show _ = some y0 from hf 0 _ rfl)
    obtain ⟨m, e1, g1, hm⟩ := DataW.trod_int (Tryz.underlying3) (show _ = some y1 from hf 1 _ rfl)
    refine ⟨⟨s.data.toList, m⟩, ⟨?_, lit_ok64 hm⟩, ?_⟩
    · have s0 := drop_split (k := 0) (m := 1) (by exact e0) rfl
      have s1 := drop_split (k := 1) (m := 1) (by exact e1) rfl
      rw [drop_all (n := 2) (hl.trans (by kernel_rfl))] at s1
      rw [List.drop_zero] at s0
      rw [s0, s1]
      simp only [declC, bs_of]
      rfl
    · simp only [List.map_cons, List.map_nil, Rows.uptoBulk, Rows.uptoBulkAll]
      rw [g0, g1]
      simp only [Rows.uptoBulk, wD]
      omega
theorem trod_decls {cs : List Value} {x : DataW H × List MemPlace} (h : DataW.trod enc Tryz.prog W base sp held fuel 33 cs = some x) :
    ∃ (A : Option Addr) (n c : Nat) (L : List DeclL), cs = [.slice A n c] ∧ n = L.length ∧ n ≤ c ∧ DeclsRd W A L ∧ (∀ t ∈ L, nOk t.n) ∧ (L.map wD).sum + 26 ≤ 26 * Rows.uptoBulk x.1 := by
  obtain ⟨A, n, c, L, h1, h2, h3, h4, h5, h6⟩ := trod_list (fun (t : DeclL) cs' => cs' = declC t ∧ nOk t.n) wD (Tryz.underlying33) (by kernel_rfl) (fun f cs' x' hh => trod_decl hh) h
  refine ⟨A, n, c, L, h1, h2, h3, fun j t hj => ?_, fun t ht => ?_, h5⟩
  · obtain ⟨ad, cs', rfl, ⟨rfl, _⟩, _, q0, q⟩ := h4 j t hj
    exact ⟨ad, rfl, q0 _ rfl, q 1 _ (by omega) rfl⟩
  · obtain ⟨j, hj⟩ := List.getElem?_of_mem ht
    obtain ⟨_, _, _, ⟨_, hn⟩, _⟩ := h4 j t hj
    exact hn
theorem trod_prog {cs : List Value} {x : DataW H × List MemPlace} (h : DataW.trod enc Tryz.prog W base sp held fuel 36 cs = some x) :
    ∃ (A : Option Addr) (n c : Nat) (B : Option Addr) (m d : Nat) (ds : List DeclL) (rs : List RuleL), cs = [.slice A n c, .slice B m d] ∧ ProgAt W A n c B m d ds rs ∧ nP ds rs ∧ wP ds rs ≤ 26 * Rows.uptoBulk x.1 ∧ (B = none → m = 0 ∧ d = 0) := by
  obtain ⟨xs, n, _, rfl, hl, hlen, hf⟩ := DataW.trod_struct (Tryz.underlying36) h
  match xs, hlen with
  | [y0, y1], _ =>
    obtain ⟨A, n', c, ds, e0, h2, h3, h4, h5, h6⟩ := trod_decls (show _ = some y0 from hf 0 _ rfl)
    obtain ⟨B, m, d, rs, e1, k2, k3, k4, k5, k6, k7⟩ := trod_rules (show _ = some y1 from hf 1 _ rfl)
    refine ⟨A, n', c, B, m, d, ds, rs, ?_, ⟨h2, k2, h4, k4⟩, ⟨h5, k5⟩, ?_, k7⟩
    · have s0 := drop_split (k := 0) (m := 1) (by exact e0) rfl
      have s1 := drop_split (k := 1) (m := 1) (by exact e1) rfl
      rw [drop_all (n := 2) (hl.trans (by kernel_rfl))] at s1
      rw [List.drop_zero] at s0
      rw [s0, s1]
      rfl
    · simp only [List.map_cons, List.map_nil, Rows.uptoBulk, Rows.uptoBulkAll, wP]
      omega
end
theorem wL_len (l : LitL) : l.a.a.length * 24 ≤ wL l := by
  have := wA_len l.a
  unfold wL
  omega
theorem sum_len {α : Type} (w : α → Nat) (k : Nat) : ∀ L : List α, (∀ a ∈ L, k ≤ w a) → L.length * k ≤ (L.map w).sum
  | [], _ => by simp
  | a :: r, h => by
    have h1 := h a (List.mem_cons_self ..)
    have h2 := sum_len w k r fun b hb => h b (List.mem_cons_of_mem _ hb)
    rw [List.map_cons, List.sum_cons, List.length_cons, Nat.succ_mul]
    omega
theorem progOk_of {ds : List DeclL} {rs : List RuleL} (hn : nP ds rs) (hw : wP ds rs ≤ 60000000) : ProgOk ds rs := by
  unfold wP at hw
  have h1 := sum_len wD 30 ds fun d _ => by unfold wD; omega
  have h2 := sum_len wR 8 rs fun r _ => by unfold wR; omega
  refine ⟨hn, by unfold wP; omega, by omega, by omega, fun r hr => ?_⟩
  have h3 := sum_mem wR hr
  have h4 := wA_len r.h
  have h5 := sum_len wL 8 r.b fun l _ => by unfold wL; omega
  have h6 : wR r = wA r.h + 8 + (r.b.map wL).sum := rfl
  refine ⟨by omega, by omega, fun l hl => ?_⟩
  have h7 := sum_mem wL hl
  have h8 := wL_len l
  omega
theorem up_of {H : Type} {l : List (DataW H)} {y : DataW H} {P : Prop} (h : Rows.uptoBulk y ≤ 1048576 → P) (hm : y ∈ l) (hk : Rows.uptoBulkAll l ≤ 1048576) : P := h (Nat.le_trans (bulk_mem hm) hk)
/-- A program that came in. -/
theorem arg_prog {H : Type} {enc : TypeId × Value → H} {W : World} {r : Reach} {b0 base : Nat} {v : Value} {y : DataW H} {ps : List MemPlace} {sp : Nat → Bool} {held : Bool} (hv : Value.okWide Tryz.prog W r b0 36 v)
    (h : DataW.Trod enc Tryz.prog W base sp held 36 v y ps) : ∃ (A : Option Addr) (n c : Nat) (B : Option Addr) (m d : Nat) (ds : List DeclL) (rs : List RuleL), v = .agg #[.slice A n c, .slice B m d] ∧ ProgAt W A n c B m d ds rs ∧ (Rows.uptoBulk y ≤ 1048576 → ProgOk ds rs ∧ wP ds rs ≤ 27262976) ∧ (B = none → m = 0 ∧ d = 0) := by
  obtain ⟨cs, rfl, hs⟩ := okWide_struct (Tryz.underlying36) hv
  obtain ⟨fuel, hf⟩ := h
  obtain ⟨A, n, c, B, m, d, ds, rs, e, h1, h2, h3, h4⟩ := trod_prog hf
  exact ⟨A, n, c, B, m, d, ds, rs, congrArg Value.agg (Array.ext' (by exact e)), h1, fun hb => ⟨progOk_of h2 (by dsimp only at h3; omega), by dsimp only at h3; omega⟩, h4⟩
end Go.Proofs.YtminbdcabacfbaaGreatDoor.V

namespace Go.Proofs.YtminbdcabacfbaaGreatDoor.V
set_option linter.unusedVariables false
set_option linter.unusedSimpArgs false
open Go.RowKit

/-- What a rule's two slices hold. -/
def QOk (W : World) (q : RuleL × Value × Value) : Prop := ∃ A n c B m d, n = q.1.h.a.length ∧ n ≤ c ∧ m = q.1.b.length ∧ m ≤ d ∧ q.2.1 = .slice A n c ∧ q.2.2 = .slice B m d ∧ TermsRd W A q.1.h.a ∧ LitsRd W B q.1.b
theorem QOk.below {W W' : World} {q : RuleL × Value × Value} (h : QOk W q) (hb : Below W.heap.size W W') : QOk W' q := by
  obtain ⟨A, n, c, B, m, d, h1, h2, h3, h4, h5, h6, h7, h8⟩ := h
  exact ⟨A, n, c, B, m, d, h1, h2, h3, h4, h5, h6, h7.below hb, h8.below hb⟩
theorem add_block (a : Addr) (k : Nat) : (a.add k).block = a.block ∧ (a.add k).off = a.off + k := by
  unfold Addr.add
  split
  · rename_i h
    subst h
    exact ⟨rfl, rfl⟩
  · exact ⟨rfl, rfl⟩
theorem add_pos (a : Addr) {k : Nat} (h : 0 < k) : a.add k = ⟨a.block, a.off + k, none⟩ := by
  unfold Addr.add
  rw [if_neg (by omega)]
theorem rules_pick {W : World} {A : Option Addr} {L : List RuleL} (h : RulesRd W A L) : ∃ qs : List (RuleL × Value × Value), qs.map (·.1) = L ∧ (∀ q ∈ qs, QOk W q) ∧ ∀ ad, A = some ad → ∀ j u, (qs.flatMap ruleC)[j]? = some u → W.cell? (ad.add j) = some u := by
  obtain ⟨qs, hl, hq⟩ := pick_list (Q := fun j (q : RuleL × Value × Value) => L[j]? = some q.1 ∧ QOk W q ∧ ∀ ad, A = some ad → W.cell? (ad.add (j * 3)) = some (.string (bs q.1.h.p)) ∧ W.cell? ⟨(ad.add (j * 3)).block, (ad.add (j * 3)).off + 1, none⟩ = some q.2.1 ∧ W.cell? ⟨(ad.add (j * 3)).block, (ad.add (j * 3)).off + 2, none⟩ = some q.2.2) L.length (fun j hj => by
    have hx : L[j]? = some L[j] := List.getElem?_eq_getElem hj
    obtain ⟨a, ha, ⟨Aa, na, ca, k1, k2, c0, c1, k3⟩, B, m, d, k4, k5, c2, k6⟩ := h j _ hx
    refine ⟨(L[j], .slice Aa na ca, .slice B m d), hx, ⟨Aa, na, ca, B, m, d, k1, k2, k4, k5, rfl, rfl, k3, k6⟩, fun ad had => ?_⟩
    rw [ha] at had
    cases had
    exact ⟨c0, c1, c2⟩)
  refine ⟨qs, ?_, ?_, ?_⟩
  · apply List.ext_getElem?
    intro j
    rw [List.getElem?_map]
    cases hj : qs[j]? with
    | none =>
      have := List.getElem?_eq_none_iff.1 hj
      rw [List.getElem?_eq_none (by omega)]
      rfl
    | some q => rw [(hq j q hj).1]; rfl
  · intro q hm
    obtain ⟨j, hj⟩ := List.getElem?_of_mem hm
    exact (hq j q hj).2.1
  · intro ad had j u hu
    have hlt := (List.getElem?_eq_some_iff.1 hu).1
    have hlen : (qs.flatMap ruleC).length = qs.length * 3 := by
      clear hq hl hu hlt
      induction qs with
      | nil => rfl
      | cons q r ih => rw [List.flatMap_cons, List.length_append, ih, List.length_cons]; simp [ruleC]; omega
    rw [hlen] at hlt
    have hi : j / 3 < qs.length := by omega
    obtain ⟨q, hqq⟩ : ∃ q, qs[j / 3]? = some q := ⟨_, List.getElem?_eq_getElem hi⟩
    obtain ⟨c0, c1, c2⟩ := (hq _ q hqq).2.2 ad had
    have hf := flat_at ruleC 3 (fun x => rfl) qs (j / 3) (j % 3) q hqq (by omega)
    have hjj : j / 3 * 3 + j % 3 = j := by omega
    rw [hjj, hu] at hf
    obtain ⟨b1, b2⟩ := add_block ad (j / 3 * 3)
    have hr : j % 3 = 0 ∨ j % 3 = 1 ∨ j % 3 = 2 := by omega
    rcases hr with hr | hr | hr <;> rw [hr] at hf
    · have : j / 3 * 3 = j := by omega
      rw [this] at c0
      rw [c0, hf]
      rfl
    · rw [add_pos ad (by omega), ← show ad.off + j / 3 * 3 + 1 = ad.off + j by omega, ← b1, ← b2, c1, hf]
      rfl
    · rw [add_pos ad (by omega), ← show ad.off + j / 3 * 3 + 2 = ad.off + j by omega, ← b1, ← b2, c2, hf]
      rfl
theorem rules_of_row {W W' : World} {B n c : Nat} {A : Option Addr} {qs : List (RuleL × Value × Value)} (ho : W'.ownsRow B 50 3 (.slice A n c) n (qs.flatMap ruleC)) (hn : n = qs.length) (hq : ∀ q ∈ qs, QOk W' q) : RulesRd W' A (qs.map (·.1)) := by
  intro j t hj
  rw [List.getElem?_map, Option.map_eq_some_iff] at hj
  obtain ⟨q, hqj, rfl⟩ := hj
  obtain ⟨g, rfl, hc⟩ := flat_row ruleC (fun x => rfl) ho hn hqj
  obtain ⟨A2, n2, c2, B2, m2, d2, h1, h2, h3, h4, h5, h6, h7, h8⟩ := hq q (List.mem_of_getElem? hqj)
  refine ⟨_, rfl, ?_⟩
  rw [addr_add]
  exact ⟨⟨A2, n2, c2, h1, h2, hc 0 _ (by omega) rfl, (hc 1 _ (by omega) rfl).trans (by rw [h5]), h7⟩, B2, m2, d2, h3, h4, (hc 2 _ (by omega) rfl).trans (by rw [h6]), h8⟩
theorem rows_len (qs : List (RuleL × Value × Value)) : (qs.flatMap ruleC).length = qs.length * 3 := by
  induction qs with
  | nil => rfl
  | cons q r ih => rw [List.flatMap_cons, List.length_append, ih, List.length_cons]; simp [ruleC]; omega
theorem rows_one {W : World} {qs : List (RuleL × Value × Value)} (h : ∀ q ∈ qs, QOk W q) : ∀ u ∈ qs.flatMap ruleC, u.oneCell' = true := by
  intro u hu
  obtain ⟨q, hq, hu⟩ := List.mem_flatMap.1 hu
  obtain ⟨A, n, c, B, m, d, _, _, _, _, h5, h6, _, _⟩ := h q hq
  simp only [ruleC, List.mem_cons, List.mem_nil_iff, or_false] at hu
  rcases hu with rfl | rfl | rfl
  · rfl
  · rw [h5]; rfl
  · rw [h6]; rfl
theorem rl_info : (Tryz.prog.info? 50).map (fun i => (i.zero, i.size, i.bytes)) = some (some (.agg #[.string ⟨#[]⟩, .slice none 0 0, .slice none 0 0]), 3, 64) := by kernel_rfl
theorem own_none7 (w : World) : (w.alloc (.cells #[] 50)).ownsRow w.heap.size 50 3 (.slice (some ⟨w.heap.size, 0, none⟩) 0 0) 0 [] :=
  ⟨rfl, .inr ⟨w.heap.size, 0, _, rfl, Nat.le_refl _, heap_alloc_new w _, Nat.le_refl _, by decide, rfl, rfl⟩⟩
/-- Rules behind rules, in a region that draws. -/
theorem step_rules {ops : Array Oper} {o : Oper} {a : Act} {K : Act → World → Prop} {Q : Exit → Act → World → Prop} {E : Prop} {w : World} (hgd : o.guard = none) (s x : Operand)
    (ho : o.op = .call { callee := .builtin .append, args := #[s, x], argTypes := #[34, 34] })
    (base : Nat) (v : Value) (n : Nat) (xs : List Value) (hs : a.eval s = v) (hown : w.ownsRow base 50 3 v n xs)
    (A : Option Addr) (m c : Nat) (news : List Value) (hx : a.eval x = .slice A m c) (hl : news.length = m * 3) (hnews : ∀ ad, A = some ad → ∀ j u, news[j]? = some u → w.cell? (ad.add j) = some u) (h1 : ∀ u ∈ news, u.oneCell' = true) (h0 : A = none → m = 0 ∧ c = 0)
    (hn : n + m ≤ 2000000000) (hbase : base ≤ w.heap.size)
    (h : ∀ A' c' w', w'.ownsRow base 50 3 (.slice A' (n + m) c') (n + m) (xs ++ news) → w.grownBy w' v.ownBlock → K (a.put o.dst (.slice A' (n + m) c')) w') :
    if Region.wanted o (yielded ops a.tmps) = true then Oper.wp Tryz.prog o a w K Q else E := by
  have hw : Region.wanted o (yielded ops a.tmps) = true := by simp [Region.wanted, hgd]
  rw [if_pos hw]
  obtain ⟨i, hi, hz0, hz1, hz2⟩ := info_parts rl_info
  cases A with
  | none =>
    obtain ⟨rfl, rfl⟩ := h0 rfl
    have hy : news = [] := List.length_eq_zero_iff.1 (by omega)
    subst hy
    have hr := run_append_owned_none (P := Tryz.prog) (w := w) base 34 o.type 50 i 3 Tryz.underlying34 hi v n _ hown
    obtain ⟨A', c', rfl⟩ := o_slice hown
    unfold Oper.wp execOp
    simp only [ho, resolve, invoke, builtin, Sem.run_bind, Sem.run_pure, Result.andThen_ok, List.map_toArray, List.map_cons, List.map_nil, hs, hx, hr]
    exact h A' c' w (by rw [List.append_nil]; exact hown) ⟨rfl, rfl, rfl, Nat.le_refl _, fun _ _ _ => rfl⟩
  | some ad =>
    obtain ⟨v', w', hr, h2, h3, h4, h5⟩ := run_append_own_at (P := Tryz.prog) w base 34 o.type 50 i _ 3 64 Tryz.underlying34 hi hz0 hz1 hz2 rfl (by decide) v n _ hown ad m c news hl (hnews ad rfl) h1 (by unfold maxLen; omega) (by omega) hbase
    obtain ⟨A', c', rfl⟩ := o_slice h2
    unfold Oper.wp execOp
    simp only [ho, resolve, invoke, builtin, Sem.run_bind, Sem.run_pure, Result.andThen_ok, List.map_toArray, List.map_cons, List.map_nil, hs, hx, hr]
    exact h A' c' w' h2 h3
end Go.Proofs.YtminbdcabacfbaaGreatDoor.V

namespace Go.Proofs.YtminbdcabacfbaaGreatDoor.V
set_option linter.unusedVariables false
set_option linter.unusedSimpArgs false
open Go.RowKit

/-- A program's block. -/
def IsPg (T : Nat) (v0 v1 : Value) (w : World) : Prop := w.heap[T]? = some (.cells #[v0, v1] 36 (0, 0))
theorem IsPg.c0 {T : Nat} {v0 v1 : Value} {w : World} (h : IsPg T v0 v1 w) : w.cell? ⟨T, 0, none⟩ = some v0 := cell_of_row w T 0 _ _ _ h
theorem IsPg.c1 {T : Nat} {v0 v1 : Value} {w : World} (h : IsPg T v0 v1 w) : w.cell? ⟨T, 1, none⟩ = some v1 := cell_of_row w T 1 _ _ _ h
theorem IsPg.lt {T : Nat} {v0 v1 : Value} {w : World} (h : IsPg T v0 v1 w) : T < w.heap.size := (Array.getElem?_eq_some_iff.1 h).1
theorem IsPg.below {T : Nat} {v0 v1 : Value} {w w' : World} (h : IsPg T v0 v1 w) (hb : Below w.heap.size w w') : IsPg T v0 v1 w' := (hb.block T h.lt).trans h
theorem IsPg.fr {T : Nat} {v0 v1 : Value} {w : World} (h : IsPg T v0 v1 w) (i : Nat) : w.frozen? ⟨T, i, none⟩ = false := frozen_of_row w T i _ _ h
theorem IsPg.grown {T : Nat} {v0 v1 : Value} {w w' : World} {row : Option Nat} (h : IsPg T v0 v1 w) (hg : w.grownBy w' row) (hne : some T ≠ row) : IsPg T v0 v1 w' := (hg.block T h.lt hne).trans h
theorem IsPg.set {T : Nat} {v0 v1 : Value} {w : World} (h : IsPg T v0 v1 w) (u0 u1 : Value) : IsPg T u0 u1 ((w.setCell ⟨T, 0, none⟩ u0).setCell ⟨T, 1, none⟩ u1) := set_block (set_block h u0) u1
theorem linesL_at {t : List UInt8} {k m : Nat} {p : UInt8} (hk : k < t.length) (h : linesL p (t.drop k) = some m) : (t[k] = 10 ∧ p = 46 ∧ ∃ m', m = m' + 1 ∧ linesL t[k] (t.drop (k + 1)) = some m') ∨ (t[k] ≠ 10 ∧ linesL t[k] (t.drop (k + 1)) = some m) := by
  rw [List.drop_eq_getElem_cons hk, linesL] at h
  split at h
  · rename_i hc
    split at h
    · rename_i hp
      rw [Option.map_eq_some_iff] at h
      obtain ⟨m', h1, h2⟩ := h
      exact .inl ⟨hc, hp, m', h2.symm, h1⟩
    · cases h
  · rename_i hc
    exact .inr ⟨hc, h⟩
def prevB (t : List UInt8) (k : Nat) : UInt8 := if k = 0 then 0 else t[k - 1]?.getD 0
theorem prevB_succ {t : List UInt8} {k : Nat} (hk : k < t.length) : prevB t (k + 1) = t[k] := by
  unfold prevB
  rw [if_neg (by omega), Nat.add_sub_cancel, List.getElem?_eq_getElem hk]
  rfl
theorem o_nepg {W : World} {q n X : Nat} {v v0 v1 : Value} {xs : List Value} (h : W.ownsRow q 50 3 v n xs) (hp : IsPg X v0 v1 W) : some X ≠ v.ownBlock := fun e => by
  obtain ⟨C, t, m, hc, ht⟩ := o_block h X e.symm
  unfold IsPg at hp
  rw [hc] at hp
  injection hp with hp
  injection hp with _ h2 _
  rw [ht] at h2
  exact absurd h2 (by decide)
theorem pg_end {W0 W : World} {X n N : Nat} {v u0 u1 v0 v1 : Value} {xs : List Value} (hb : Below W0.heap.size W0 W) (hX : W0.heap.size ≤ X) (hp : IsPg X v0 v1 W) (ho : W.ownsRow n 50 3 v N xs) : IsPg X u0 u1 ((W.setCell ⟨X, 0, none⟩ u0).setCell ⟨X, 1, none⟩ u1) ∧ ((W.setCell ⟨X, 0, none⟩ u0).setCell ⟨X, 1, none⟩ u1).ownsRow n 50 3 v N xs ∧ Below W0.heap.size W0 ((W.setCell ⟨X, 0, none⟩ u0).setCell ⟨X, 1, none⟩ u1) :=
  ⟨hp.set u0 u1, ownsRow_setCell_other (ownsRow_setCell_other ho (fun e => o_nepg ho hp e.symm) u0) (fun e => o_nepg ho hp e.symm) u1, (hb.setCell hX u0).setCell hX u1⟩
theorem both_ok {ds ds2 : List DeclL} {rs rs2 : List RuleL} (h1 : nP ds rs) (h2 : nP ds2 rs2) (w1 : wP ds rs ≤ 27262976) (w2 : wP ds2 rs2 ≤ 27262976) : ProgOk ds (rs ++ rs2) ∧ ProgOk [] rs2 := by
  unfold wP at w1 w2
  refine ⟨progOk_of ⟨h1.1, fun r hr => (List.mem_append.1 hr).elim (h1.2 r) (h2.2 r)⟩ ?_, progOk_of ⟨fun d hd => (by cases hd), h2.2⟩ ?_⟩
  · unfold wP
    rw [List.map_append, List.sum_append]
    omega
  · unfold wP
    simp only [List.map_nil, List.sum_nil]
    omega

set_option maxRecDepth 100000 in
set_option maxHeartbeats 16000000 in
theorem lines_calls (A : Option Addr) (n c : Nat) (B : Option Addr) (m d : Nat) (ds : List DeclL) (rs : List RuleL) (A2 : Option Addr) (n2 c2 : Nat) (B2 : Option Addr) (m2 d2 : Nat) (ds2 : List DeclL) (rs2 : List RuleL) (w : World)
    (h : ProgAt w A n c B m d ds rs) (h2 : ProgAt w A2 n2 c2 B2 m2 d2 ds2 rs2) (z1 : B = none → m = 0 ∧ d = 0) (z2 : B2 = none → m2 = 0 ∧ d2 = 0) (ok : ProgOk ds rs ∧ wP ds rs ≤ 27262976) (ok2 : ProgOk ds2 rs2 ∧ wP ds2 rs2 ≤ 27262976) (hE : ErrW w) (hW : TabW w) :
    Calls Tryz.prog 7 #[.agg #[.slice A n c, .slice B m d], .agg #[.slice A2 n2 c2, .slice B2 m2 d2]] w fun e w' => e = .returned (.bool true) ∧ Below w.heap.size w w' := by
  have hb0 := ((Below.refl w.heap.size w).alloc (Nat.le_refl _) (.cells #[.slice A n c, .slice B m d] 36)).alloc (by simp) (.cells #[.slice A2 n2 c2, .slice B2 m2 d2] 36)
  have hg : IsPg w.heap.size (.slice A n c) (.slice B m d) ((w.alloc (.cells #[.slice A n c, .slice B m d] 36)).alloc (.cells #[.slice A2 n2 c2, .slice B2 m2 d2] 36)) := (((Below.refl (w.alloc (.cells #[.slice A n c, .slice B m d] 36)).heap.size (w.alloc (.cells #[.slice A n c, .slice B m d] 36))).alloc (Nat.le_refl _) (.cells #[.slice A2 n2 c2, .slice B2 m2 d2] 36)).block w.heap.size (by simp)).trans (heap_alloc_new w (.cells #[.slice A n c, .slice B m d] 36))
  have hh := heap_alloc_new (w.alloc (.cells #[.slice A n c, .slice B m d] 36)) (.cells #[.slice A2 n2 c2, .slice B2 m2 d2] 36)
  rw [World.size_alloc] at hh
  have HB0 := Lib.hid hb0
  have HG := Lib.hid hg
  have HH := Lib.hid (show IsPg (w.heap.size + 1) (.slice A2 n2 c2) (.slice B2 m2 d2) ((w.alloc (.cells #[.slice A n c, .slice B m d] 36)).alloc (.cells #[.slice A2 n2 c2, .slice B2 m2 d2] 36)) from hh)
  have HE := Lib.hid (hE.below hb0)
  have HW := Lib.hid (hW.below hb0)
  have HP := Lib.hid (h.below hb0)
  have HQ := Lib.hid (h2.below hb0)
  have hmb : m < 1000000000 := by rw [h.hm]; exact ok.1.r
  have hmb2 : m2 < 1000000000 := by rw [h2.hm]; exact ok2.1.r
  have HF1 := Lib.hid (fun (W : World) (h : ProgAt W A n c B m d ds rs) => few_calls A B n c m d ds rs W h hmb (fun r hr => (ok.1.l r hr).2.1))
  have HF2 := Lib.hid (fun (W : World) (h : ProgAt W A2 n2 c2 B2 m2 d2 ds2 rs2) => few_calls A2 B2 n2 c2 m2 d2 ds2 rs2 W h hmb2 (fun r hr => (ok2.1.l r hr).2.1))
  have HM1 := Lib.hid (fun (W : World) (h : ProgAt W A n c B m d ds rs) => p7May A B n c m d ds rs W h ok.1)
  have HM2 := Lib.hid (fun (W : World) (h : ProgAt W A2 n2 c2 B2 m2 d2 ds2 rs2) => p7May A2 B2 n2 c2 m2 d2 ds2 rs2 W h ok2.1)
  clear hb0 hg hh hE hW
  cases hmay1 : mayP ds rs with
  | false =>
    have HMAY1 := Lib.hid hmay1
    clear hmay1 ok ok2 h h2 z1 z2
    go_enter Tryz.func7, Tryz.ntmps7
    go_wp2_with (first
      | (go_at_call 14; ((with_reducible refine (shown7_calls _ HE.out HW.out).mono ?_); rintro e w1 ⟨rfl, hb1⟩; have HB1 := Lib.hid (HB0.out.trans (hb1.mono HB0.out.size)); have HP1 := Lib.hid (HP.out.below hb1); have HQ1 := Lib.hid (HQ.out.below hb1); have HW1 := Lib.hid (HW.out.below hb1); have HG1 := Lib.hid (HG.out.below hb1); have HH1 := Lib.hid (HH.out.below hb1); have p0 := HG1.out.c0; have p1 := HG1.out.c1; clear hb1))
      | (go_at_call 15; ((with_reducible refine (HF1.out _ HP1.out).mono ?_);  rintro e w2 ⟨⟨b2, rfl⟩, hb2⟩; have HB2 := Lib.hid (HB1.out.trans (hb2.mono HB1.out.size)); have HP2 := Lib.hid (HP1.out.below hb2); have HQ2 := Lib.hid (HQ1.out.below hb2); have HW2 := Lib.hid (HW1.out.below hb2); have HG2 := Lib.hid (HG1.out.below hb2); have HH2 := Lib.hid (HH1.out.below hb2); have p0 := HG2.out.c0; have p1 := HG2.out.c1; have q0 := HH2.out.c0; have q1 := HH2.out.c1; clear hb2))
      | (go_at_call 15; ((with_reducible refine (HF2.out _ HQ2.out).mono ?_);  rintro e w3 ⟨⟨b3, rfl⟩, hb3⟩; have HB3 := Lib.hid (HB2.out.trans (hb3.mono HB2.out.size)); have HP3 := Lib.hid (HP2.out.below hb3); have HQ3 := Lib.hid (HQ2.out.below hb3); have HW3 := Lib.hid (HW2.out.below hb3); have HG3 := Lib.hid (HG2.out.below hb3); have HH3 := Lib.hid (HH2.out.below hb3); have p0 := HG3.out.c0; have p1 := HG3.out.c1; have q0 := HH3.out.c0; have q1 := HH3.out.c1; clear hb3))
      | (go_at_call 18; ((with_reducible refine (HM1.out _ HP3.out).mono ?_); rw [HMAY1.out]; rintro e w4 ⟨rfl, hb4⟩; have HB4 := Lib.hid (HB3.out.trans (hb4.mono HB3.out.size)); have HP4 := Lib.hid (HP3.out.below hb4); have HQ4 := Lib.hid (HQ3.out.below hb4); have HW4 := Lib.hid (HW3.out.below hb4); have HG4 := Lib.hid (HG3.out.below hb4); have HH4 := Lib.hid (HH3.out.below hb4); have p0 := HG4.out.c0; have p1 := HG4.out.c1; have q0 := HH4.out.c0; have q1 := HH4.out.c1; clear hb4)))
    all_goals
      go_ret
      first
        | exact ⟨rfl, HB4.out⟩
        | exact ⟨rfl, HB3.out⟩
        | exact ⟨rfl, HB2.out⟩
  | true =>
    have HMAY1 := Lib.hid hmay1
    cases hmay2 : mayP ds2 rs2 with
    | false =>
      have HMAY2 := Lib.hid hmay2
      clear hmay1 hmay2 ok ok2 h h2 z1 z2
      go_enter Tryz.func7, Tryz.ntmps7
      go_wp2_with (first
        | (go_at_call 14; ((with_reducible refine (shown7_calls _ HE.out HW.out).mono ?_); rintro e w1 ⟨rfl, hb1⟩; have HB1 := Lib.hid (HB0.out.trans (hb1.mono HB0.out.size)); have HP1 := Lib.hid (HP.out.below hb1); have HQ1 := Lib.hid (HQ.out.below hb1); have HW1 := Lib.hid (HW.out.below hb1); have HG1 := Lib.hid (HG.out.below hb1); have HH1 := Lib.hid (HH.out.below hb1); have p0 := HG1.out.c0; have p1 := HG1.out.c1; clear hb1))
        | (go_at_call 15; ((with_reducible refine (HF1.out _ HP1.out).mono ?_);  rintro e w2 ⟨⟨b2, rfl⟩, hb2⟩; have HB2 := Lib.hid (HB1.out.trans (hb2.mono HB1.out.size)); have HP2 := Lib.hid (HP1.out.below hb2); have HQ2 := Lib.hid (HQ1.out.below hb2); have HW2 := Lib.hid (HW1.out.below hb2); have HG2 := Lib.hid (HG1.out.below hb2); have HH2 := Lib.hid (HH1.out.below hb2); have p0 := HG2.out.c0; have p1 := HG2.out.c1; have q0 := HH2.out.c0; have q1 := HH2.out.c1; clear hb2))
        | (go_at_call 15; ((with_reducible refine (HF2.out _ HQ2.out).mono ?_);  rintro e w3 ⟨⟨b3, rfl⟩, hb3⟩; have HB3 := Lib.hid (HB2.out.trans (hb3.mono HB2.out.size)); have HP3 := Lib.hid (HP2.out.below hb3); have HQ3 := Lib.hid (HQ2.out.below hb3); have HW3 := Lib.hid (HW2.out.below hb3); have HG3 := Lib.hid (HG2.out.below hb3); have HH3 := Lib.hid (HH2.out.below hb3); have p0 := HG3.out.c0; have p1 := HG3.out.c1; have q0 := HH3.out.c0; have q1 := HH3.out.c1; clear hb3))
        | (go_at_call 18; ((with_reducible refine (HM1.out _ HP3.out).mono ?_); rw [HMAY1.out]; rintro e w4 ⟨rfl, hb4⟩; have HB4 := Lib.hid (HB3.out.trans (hb4.mono HB3.out.size)); have HP4 := Lib.hid (HP3.out.below hb4); have HQ4 := Lib.hid (HQ3.out.below hb4); have HW4 := Lib.hid (HW3.out.below hb4); have HG4 := Lib.hid (HG3.out.below hb4); have HH4 := Lib.hid (HH3.out.below hb4); have p0 := HG4.out.c0; have p1 := HG4.out.c1; have q0 := HH4.out.c0; have q1 := HH4.out.c1; clear hb4))
        | (go_at_call 18; ((with_reducible refine (HM2.out _ HQ4.out).mono ?_); rw [HMAY2.out]; rintro e w5 ⟨rfl, hb5⟩; have HB5 := Lib.hid (HB4.out.trans (hb5.mono HB4.out.size)); have HP5 := Lib.hid (HP4.out.below hb5); have HQ5 := Lib.hid (HQ4.out.below hb5); have HW5 := Lib.hid (HW4.out.below hb5); have HG5 := Lib.hid (HG4.out.below hb5); have HH5 := Lib.hid (HH4.out.below hb5); have p0 := HG5.out.c0; have p1 := HG5.out.c1; have q0 := HH5.out.c0; have q1 := HH5.out.c1; clear hb5)))
      all_goals
        go_ret
        first
          | exact ⟨rfl, HB5.out⟩
          | exact ⟨rfl, HB3.out⟩
          | exact ⟨rfl, HB2.out⟩
    | true =>
      have HMAY2 := Lib.hid hmay2
      obtain ⟨t, ht⟩ : ∃ t, prgT ds rs = t := ⟨_, rfl⟩
      obtain ⟨S, hS⟩ : ∃ S, bs t = S := ⟨_, rfl⟩
      have hSz : S.size = t.length := by rw [← hS, bs_size]
      have hlines : linesL 0 t = some (n + m) := by rw [← ht, h.hn, h.hm]; exact prog_lines hmay1 0
      have HPR := Lib.hid (fun (W : World) (h : ProgAt W A n c B m d ds rs) (hw : TabW W) => (show Calls Tryz.prog 16 #[.agg #[.slice A n c, .slice B m d]] W (fun e w' => e = .returned (.string S) ∧ Below W.heap.size W w') from by rw [← hS, ← ht]; exact p7Prog A B n c m d ds rs W h ok.1 hw))
      obtain ⟨okB, okC⟩ := both_ok ok.1.n ok2.1.n ok.2 ok2.2
      obtain ⟨S3, hS3⟩ : ∃ S3, bs (prgT ds (rs ++ rs2)) = S3 := ⟨_, rfl⟩
      obtain ⟨S4, hS4⟩ : ∃ S4, bs (prgT [] rs2) = S4 := ⟨_, rfl⟩
      have hcat : S ++ S4 = S3 := by rw [← hS, ← hS4, ← hS3, bs_append, ← ht, ← prog_behind]
      have hl3 := lenT_prog ds (rs ++ rs2) okB.n
      have hadd : ∀ W, (Op.stringOp .add S S4).run Tryz.prog W = .ok (.string S3) W := fun W => by
        have hs3 : (S ++ S4).size ≤ 9223372036854775807 := by
          rw [hcat, ← hS3, bs_size]
          have := okB.w
          omega
        rw [ByteArray.size_append] at hs3
        rw [run_string_add_sum W _ _ (by omega), hcat]
      have HPB := Lib.hid (fun (A8 : Option Addr) (c8 : Nat) (W : World) (h : ProgAt W A n c A8 (m + m2) c8 ds (rs ++ rs2)) (hw : TabW W) => (show Calls Tryz.prog 16 #[.agg #[.slice A n c, .slice A8 (m + m2) c8]] W (fun e w' => e = .returned (.string S3) ∧ Below W.heap.size W w') from by rw [← hS3]; exact p7Prog A A8 n c (m + m2) c8 ds (rs ++ rs2) W h okB hw))
      have HPC := Lib.hid (fun (W : World) (h : ProgAt W none 0 0 B2 m2 d2 [] rs2) (hw : TabW W) => (show Calls Tryz.prog 16 #[.agg #[.slice none 0 0, .slice B2 m2 d2]] W (fun e w' => e = .returned (.string S4) ∧ Below W.heap.size W w') from by rw [← hS4]; exact p7Prog none B2 0 0 m2 d2 [] rs2 W h okC hw))
      have hss : (S3.toList == S3.toList) = true := by simp
      have HBY := Lib.hid (show ∀ (k : Nat) (hk : k < S.size) (hk' : k < t.length), (S[k]'hk).toNat = (t[k]'hk').toNat from fun k hk hk' => by subst hS; rfl)
      have HSZ := Lib.hid hSz
      have HLN := Lib.hid hlines
      have hnm4 : n ≤ 400 ∧ m ≤ 400 := by
        obtain ⟨k1, k2, _⟩ := mayP_parts hmay1
        rw [h.hn, h.hm]
        exact ⟨k1, k2⟩
      have hm24 : m2 ≤ 400 := by
        obtain ⟨_, k2, _⟩ := mayP_parts hmay2
        rw [h2.hm]
        exact k2
      have hSb : S.size ≤ 1099511627776 := by
        rw [hSz, ← ht]
        have := lenT_prog ds rs ok.1.n
        have := ok.2
        omega
      obtain ⟨hn400, hm400⟩ := hnm4
      have Z1 := Lib.hid z1
      have Z2 := Lib.hid z2
      clear hmay1 hmay2 ok ok2 h h2 ht hS hSz hlines okB okC hS3 hS4 hcat hl3 z1 z2
      go_enter Tryz.func7, Tryz.ntmps7
      go_wp2_with (first
        | (go_at_call 14; ((with_reducible refine (shown7_calls _ HE.out HW.out).mono ?_); rintro e w1 ⟨rfl, hb1⟩; have HB1 := Lib.hid (HB0.out.trans (hb1.mono HB0.out.size)); have HP1 := Lib.hid (HP.out.below hb1); have HQ1 := Lib.hid (HQ.out.below hb1); have HW1 := Lib.hid (HW.out.below hb1); have HG1 := Lib.hid (HG.out.below hb1); have HH1 := Lib.hid (HH.out.below hb1); have p0 := HG1.out.c0; have p1 := HG1.out.c1; clear hb1))
        | (go_at_call 15; ((with_reducible refine (HF1.out _ HP1.out).mono ?_);  rintro e w2 ⟨⟨b2, rfl⟩, hb2⟩; have HB2 := Lib.hid (HB1.out.trans (hb2.mono HB1.out.size)); have HP2 := Lib.hid (HP1.out.below hb2); have HQ2 := Lib.hid (HQ1.out.below hb2); have HW2 := Lib.hid (HW1.out.below hb2); have HG2 := Lib.hid (HG1.out.below hb2); have HH2 := Lib.hid (HH1.out.below hb2); have p0 := HG2.out.c0; have p1 := HG2.out.c1; have q0 := HH2.out.c0; have q1 := HH2.out.c1; clear hb2))
        | (go_at_call 15; ((with_reducible refine (HF2.out _ HQ2.out).mono ?_);  rintro e w3 ⟨⟨b3, rfl⟩, hb3⟩; have HB3 := Lib.hid (HB2.out.trans (hb3.mono HB2.out.size)); have HP3 := Lib.hid (HP2.out.below hb3); have HQ3 := Lib.hid (HQ2.out.below hb3); have HW3 := Lib.hid (HW2.out.below hb3); have HG3 := Lib.hid (HG2.out.below hb3); have HH3 := Lib.hid (HH2.out.below hb3); have p0 := HG3.out.c0; have p1 := HG3.out.c1; have q0 := HH3.out.c0; have q1 := HH3.out.c1; clear hb3))
        | (go_at_call 18; ((with_reducible refine (HM1.out _ HP3.out).mono ?_); rw [HMAY1.out]; rintro e w4 ⟨rfl, hb4⟩; have HB4 := Lib.hid (HB3.out.trans (hb4.mono HB3.out.size)); have HP4 := Lib.hid (HP3.out.below hb4); have HQ4 := Lib.hid (HQ3.out.below hb4); have HW4 := Lib.hid (HW3.out.below hb4); have HG4 := Lib.hid (HG3.out.below hb4); have HH4 := Lib.hid (HH3.out.below hb4); have p0 := HG4.out.c0; have p1 := HG4.out.c1; have q0 := HH4.out.c0; have q1 := HH4.out.c1; clear hb4))
        | (go_at_call 18; ((with_reducible refine (HM2.out _ HQ4.out).mono ?_); rw [HMAY2.out]; rintro e w5 ⟨rfl, hb5⟩; have HB5 := Lib.hid (HB4.out.trans (hb5.mono HB4.out.size)); have HP5 := Lib.hid (HP4.out.below hb5); have HQ5 := Lib.hid (HQ4.out.below hb5); have HW5 := Lib.hid (HW4.out.below hb5); have HG5 := Lib.hid (HG4.out.below hb5); have HH5 := Lib.hid (HH4.out.below hb5); have p0 := HG5.out.c0; have p1 := HG5.out.c1; have q0 := HH5.out.c0; have q1 := HH5.out.c1; clear hb5))
        | (go_at_call 16; ((with_reducible refine (HPR.out _ HP5.out HW5.out).mono ?_);  rintro e w6 ⟨rfl, hb6⟩; have HB6 := Lib.hid (HB5.out.trans (hb6.mono HB5.out.size)); have HP6 := Lib.hid (HP5.out.below hb6); have HQ6 := Lib.hid (HQ5.out.below hb6); have HW6 := Lib.hid (HW5.out.below hb6); have HG6 := Lib.hid (HG5.out.below hb6); have HH6 := Lib.hid (HH5.out.below hb6); have p0 := HG6.out.c0; have p1 := HG6.out.c1; have q0 := HH6.out.c0; have q1 := HH6.out.c1; clear hb6)))
      all_goals try (go_ret; first | exact ⟨rfl, HB3.out⟩ | exact ⟨rfl, HB2.out⟩)
      go_loop [7, 8] (fun l i => ∃ (k cnt q : Nat), k ≤ S.size ∧ i = .int .i64 (k : Int) ∧ l = .int .i64 (cnt : Int) ∧ linesL (prevB t k) (t.drop k) = some q ∧ cnt + q = n + m) (fun _ i => S.size + 1 - (intOf i).toNat)
      case atStart => exact ⟨0, 0, n + m, Nat.zero_le _, rfl, rfl, HLN.out, by omega⟩
      case round =>
        obtain ⟨k, cnt, q, hk, rfl, rfl, hl, hsum⟩ := hrel
        by_cases hlt : k < S.size
        · have hkt : k < t.length := by rw [← HSZ.out]; exact hlt
          have hd : decide ((k : Int) < (S.size : Int)) = true := decide_eq_true (by omega)
          have hb := HBY.out k hlt hkt
          have hprev := prevB_succ hkt
          rcases linesL_at hkt hl with ⟨h1, h2, q', h3, h4⟩ | ⟨h1, h2⟩
          · have hc : (((S[k]'hlt).toNat : Int) == 10) = true := by rw [hb, h1]; decide
            cases k with
            | zero => exact absurd (show (0 : UInt8) = 46 from h2) (by decide)
            | succ k' =>
              have hk1 : k' < S.size := by omega
              have hk1t : k' < t.length := by omega
              have h46 : t[k'] = 46 := by
                unfold prevB at h2
                rw [if_neg (by omega), Nat.add_sub_cancel, List.getElem?_eq_getElem hk1t] at h2
                exact h2
              have hc2 : (((S[k']'hk1).toNat : Int) != 46) = false := by rw [HBY.out k' hk1 hk1t, h46]; decide
              have hz : (((k' + 1 : Nat) : Int) == 0) = false := beq_eq_false_iff_ne.2 (by omega)
              have H4 := Lib.hid (show linesL (prevB t (k' + 1 + 1)) (t.drop (k' + 1 + 1)) = some q' by rw [hprev]; exact h4)
              have hcb : cnt ≤ 1000 := by omega
              have hkb : k' ≤ 1099511627776 := by omega
              clear hb hprev h1 h2 h4 hl h46
              go_wp2_with fail
              exact ⟨⟨k' + 1 + 1, cnt + 1, q', by omega, by simp, by simp, H4.out, by omega⟩, by simp [intOf]; omega⟩
          · have hc : (((S[k]'hlt).toNat : Int) == 10) = false := by
              rw [hb, beq_eq_false_iff_ne]
              intro e
              apply h1
              apply UInt8.toNat_inj.1
              have : (10 : UInt8).toNat = 10 := rfl
              omega
            have H4 := Lib.hid (show linesL (prevB t (k + 1)) (t.drop (k + 1)) = some q by rw [hprev]; exact h2)
            have hkb : k ≤ 1099511627776 := by omega
            clear hb hprev h1 h2 hl
            go_wp2_with fail
            exact ⟨⟨k + 1, cnt, q, by omega, by simp, rfl, H4.out, hsum⟩, by simp [intOf]; omega⟩
        · have hkn : k = S.size := by omega
          have hd : decide ((k : Int) < (S.size : Int)) = false := decide_eq_false (by omega)
          have hq0 : q = 0 := by
            rw [List.drop_eq_nil_of_le (by rw [← HSZ.out]; omega)] at hl
            simpa [linesL] using hl.symm
          have hcn : ((cnt : Int) == (n : Int) + (m : Int)) = true := by
            rw [beq_iff_eq]
            omega
          have hwr : IntKind.i64.wrap ((n : Int) + (m : Int)) = (n : Int) + (m : Int) := IntWalk.i64_in _ (by omega)
          have hcn3 : ((cnt : Int) == IntKind.i64.wrap ((n : Int) + (m : Int))) = true := by rw [hwr]; exact hcn
          clear hwr
          have hcb : cnt ≤ 1000 := by omega
          clear hl hsum hq0 hlt
          go_wp2_with fail
          clear p0 p1 q0 q1
          obtain ⟨qs1, hqs1, hqo1, hqc1⟩ := rules_pick HP6.out.hr
          obtain ⟨qs2, hqs2, hqo2, hqc2⟩ := rules_pick HQ6.out.hr
          have hlq1 : qs1.length = m := by rw [HP6.out.hm, ← hqs1, List.length_map]
          have hlq2 : qs2.length = m2 := by rw [HQ6.out.hm, ← hqs2, List.length_map]
          have HQS1 := Lib.hid hqs1
          have HQS2 := Lib.hid hqs2
          have HQO1 := Lib.hid hqo1
          have HQO2 := Lib.hid hqo2
          have HQC1 := Lib.hid hqc1
          have HQC2 := Lib.hid hqc2
          have HLQ1 := Lib.hid hlq1
          have HLQ2 := Lib.hid hlq2
          have hbd6 := Below.refl w6.heap.size w6
          have BE1a := Lib.hid (show Below w6.heap.size w6 (w6.alloc (.cells #[] 50)).drew from (hbd6.alloc (Nat.le_refl _) _).drew)
          have BE1b := Lib.hid (show Below w6.heap.size w6 ((w6.alloc (.cells #[] 50)).alloc (.cells #[.slice none 0 0, .slice none 0 0] 36)).drew from ((hbd6.alloc (Nat.le_refl _) _).alloc (by simp) _).drew)
          have BE1c := Lib.hid (show Below w6.heap.size w6 ((w6.alloc (.cells #[.slice none 0 0, .slice none 0 0] 36)).alloc (.cells #[] 50)).drew from ((hbd6.alloc (Nat.le_refl _) _).alloc (by simp) _).drew)
          have OW1a := Lib.hid (show World.ownsRow (w6.alloc (.cells #[] 50)).drew w6.heap.size 50 3 (.slice (some ⟨w6.heap.size, 0, none⟩) 0 0) 0 [] from (own_none7 w6).drew)
          have OW1b := Lib.hid (show World.ownsRow ((w6.alloc (.cells #[] 50)).alloc (.cells #[.slice none 0 0, .slice none 0 0] 36)).drew w6.heap.size 50 3 (.slice (some ⟨w6.heap.size, 0, none⟩) 0 0) 0 [] from ((own_none7 w6).alloc _).drew)
          have how1c := own_none7 (w6.alloc (.cells #[.slice none 0 0, .slice none 0 0] 36))
          rw [World.size_alloc] at how1c
          have OW1c := Lib.hid (show World.ownsRow ((w6.alloc (.cells #[.slice none 0 0, .slice none 0 0] 36)).alloc (.cells #[] 50)).drew w6.heap.size 50 3 (.slice (some ⟨w6.heap.size + 1, 0, none⟩) 0 0) 0 [] from (o_base how1c (Nat.le_succ _)).drew)
          have hpg1b := heap_alloc_new (w6.alloc (.cells #[] 50)) (.cells #[.slice none 0 0, .slice none 0 0] 36)
          rw [World.size_alloc] at hpg1b
          have PG1b := Lib.hid (show IsPg (w6.heap.size + 1) (.slice none 0 0) (.slice none 0 0) ((w6.alloc (.cells #[] 50)).alloc (.cells #[.slice none 0 0, .slice none 0 0] 36)).drew from hpg1b)
          have hpg1c : IsPg w6.heap.size (.slice none 0 0) (.slice none 0 0) (w6.alloc (.cells #[.slice none 0 0, .slice none 0 0] 36)) := heap_alloc_new w6 _
          have PG1c := Lib.hid (show IsPg w6.heap.size (.slice none 0 0) (.slice none 0 0) ((w6.alloc (.cells #[.slice none 0 0, .slice none 0 0] 36)).alloc (.cells #[] 50)).drew from (hpg1c.below ((Below.refl _ _).alloc (Nat.le_refl _) _)).below (Below.refl _ _).drew)
          have p0 := HG6.out.c0
          have p1 := HG6.out.c1
          have q1 := HH6.out.c1
          have K := fun (W : World) (hb : Below w6.heap.size w6 W) => (show W.cell? ⟨w.heap.size, 0, none⟩ = some (.slice A n c) ∧ W.cell? ⟨w.heap.size, 1, none⟩ = some (.slice B m d) ∧ W.cell? ⟨w.heap.size + 1, 1, none⟩ = some (.slice B2 m2 d2) from ⟨cell_below hb p0, cell_below hb p1, cell_below hb q1⟩)
          clear hqs1 hqs2 hqo1 hqo2 hqc1 hqc2 hlq1 hlq2 how1c hpg1b hpg1c hbd6
          go_cut [9] (fun v9 wc => ∃ (X : Nat) (A8 : Option Addr) (c8 : Nat), v9 = .pointer (some ⟨X, 0, none⟩) ∧ w6.heap.size ≤ X ∧ IsPg X (.slice A n c) (.slice A8 (m + m2) c8) wc ∧ wc.ownsRow w6.heap.size 50 3 (.slice A8 (m + m2) c8) (m + m2) (qs1.flatMap ruleC ++ qs2.flatMap ruleC) ∧ Below w6.heap.size w6 wc)
          case first =>
            go_region_held3 (fun w' => w'.cell? ⟨w.heap.size, 0, none⟩ = some (.slice A n c) ∧ w'.cell? ⟨w.heap.size, 1, none⟩ = some (.slice B m d) ∧ w'.cell? ⟨w.heap.size + 1, 1, none⟩ = some (.slice B2 m2 d2))
              ((refine K _ ?_; repeat (first | exact HB8.out | exact HB7.out | exact Below.refl _ _ | refine Below.drew ?_ | refine Below.setCell ?_ (by first | exact Nat.le_refl _ | exact Nat.le_succ _ | exact HB8.out.size | exact HB7.out.size | (simp; done) | (simp; omega)) _ | refine Below.alloc ?_ (by first | exact Nat.le_refl _ | exact Nat.le_succ _ | exact HB8.out.size | exact HB7.out.size | (simp; done) | (simp; omega)) _)))
              (first
                | (refine step_rules (by rfl) (.tmp 55) (.tmp 57) (by rfl) w6.heap.size (.slice (some ⟨w6.heap.size, 0, none⟩) 0 0) 0 [] ?_ OW1a.out B m d (qs1.flatMap ruleC) ?_ ?_ ?_ ?_ ?_ ?_ ?_ ?_; rfl; rfl; (rw [rows_len, HLQ1.out]); (exact fun ad had j u hu => cell_below BE1a.out (HQC1.out ad had j u hu)); (exact rows_one HQO1.out); (exact Z1.out); omega; (exact BE1a.out.size); intro A7 c7 w7 how7 hg7; rw [List.nil_append] at how7; rw [Nat.zero_add] at how7 ⊢; have HB7 := Lib.hid (show Below w6.heap.size w6 w7 from BE1a.out.grown hg7 BE1a.out.size (o_from OW1a.out)); have HO7 := Lib.hid how7; clear how7 hg7)
                | (refine step_rules (by rfl) (.tmp 55) (.tmp 57) (by rfl) w6.heap.size (.slice (some ⟨w6.heap.size, 0, none⟩) 0 0) 0 [] ?_ OW1b.out B m d (qs1.flatMap ruleC) ?_ ?_ ?_ ?_ ?_ ?_ ?_ ?_; rfl; rfl; (rw [rows_len, HLQ1.out]); (exact fun ad had j u hu => cell_below BE1b.out (HQC1.out ad had j u hu)); (exact rows_one HQO1.out); (exact Z1.out); omega; (exact BE1b.out.size); intro A7 c7 w7 how7 hg7; rw [List.nil_append] at how7; rw [Nat.zero_add] at how7 ⊢; have HB7 := Lib.hid (show Below w6.heap.size w6 w7 from BE1b.out.grown hg7 BE1b.out.size (o_from OW1b.out)); have HPX := Lib.hid (IsPg.grown PG1b.out hg7 (by simp [Value.ownBlock])); have HO7 := Lib.hid how7; clear how7 hg7)
                | (refine step_rules (by rfl) (.tmp 55) (.tmp 57) (by rfl) w6.heap.size (.slice (some ⟨(w6.heap.size + 1), 0, none⟩) 0 0) 0 [] ?_ OW1c.out B m d (qs1.flatMap ruleC) ?_ ?_ ?_ ?_ ?_ ?_ ?_ ?_; rfl; rfl; (rw [rows_len, HLQ1.out]); (exact fun ad had j u hu => cell_below BE1c.out (HQC1.out ad had j u hu)); (exact rows_one HQO1.out); (exact Z1.out); omega; (exact BE1c.out.size); intro A7 c7 w7 how7 hg7; rw [List.nil_append] at how7; rw [Nat.zero_add] at how7 ⊢; have HB7 := Lib.hid (show Below w6.heap.size w6 w7 from BE1c.out.grown hg7 BE1c.out.size (o_from OW1c.out)); have HPX := Lib.hid (IsPg.grown PG1c.out hg7 (by simp [Value.ownBlock])); have HO7 := Lib.hid how7; clear how7 hg7)
                | (refine step_rules (by rfl) (.tmp 58) (.tmp 60) (by rfl) w6.heap.size (.slice A7 m c7) m (qs1.flatMap ruleC) ?_ (HO7.out.alloc (.cells #[.slice none 0 0, .slice none 0 0] 36)) B2 m2 d2 (qs2.flatMap ruleC) ?_ ?_ ?_ ?_ ?_ ?_ ?_ ?_; rfl; rfl; (rw [rows_len, HLQ2.out]); (exact fun ad had j u hu => cell_below (HB7.out.alloc HB7.out.size (.cells #[.slice none 0 0, .slice none 0 0] 36)) (HQC2.out ad had j u hu)); (exact rows_one HQO2.out); (exact Z2.out); omega; (exact (HB7.out.alloc HB7.out.size (.cells #[.slice none 0 0, .slice none 0 0] 36)).size); intro A8 c8 w8 how8 hg8; have HB8 := Lib.hid (show Below w6.heap.size w6 w8 from (HB7.out.alloc HB7.out.size (.cells #[.slice none 0 0, .slice none 0 0] 36)).grown hg8 (HB7.out.alloc HB7.out.size (.cells #[.slice none 0 0, .slice none 0 0] 36)).size (o_from HO7.out)); have HPX8 := Lib.hid (IsPg.grown (show IsPg w7.heap.size (.slice none 0 0) (.slice none 0 0) (w7.alloc (.cells #[.slice none 0 0, .slice none 0 0] 36)) from heap_alloc_new w7 _) hg8 (fun e => absurd (HO7.out.lt w7.heap.size e.symm).2 (Nat.lt_irrefl _))); have k0 := HPX8.out.c0; have k1 := HPX8.out.c1; have k2 := HPX8.out.fr 0; have k3 := HPX8.out.fr 1; have HO8 := Lib.hid how8; clear how8 hg8)
                | (have HPX0 := HPX.out; refine step_rules (by rfl) (.tmp 58) (.tmp 60) (by rfl) w6.heap.size (.slice A7 m c7) m (qs1.flatMap ruleC) ?_ HO7.out B2 m2 d2 (qs2.flatMap ruleC) ?_ ?_ ?_ ?_ ?_ ?_ ?_ ?_; rfl; rfl; (rw [rows_len, HLQ2.out]); (exact fun ad had j u hu => cell_below HB7.out (HQC2.out ad had j u hu)); (exact rows_one HQO2.out); (exact Z2.out); omega; (exact HB7.out.size); intro A8 c8 w8 how8 hg8; have HB8 := Lib.hid (show Below w6.heap.size w6 w8 from HB7.out.grown hg8 HB7.out.size (o_from HO7.out)); have HPX8 := Lib.hid (IsPg.grown HPX.out hg8 (o_nepg HO7.out HPX.out)); have k0 := HPX8.out.c0; have k1 := HPX8.out.c1; have k2 := HPX8.out.fr 0; have k3 := HPX8.out.fr 1; have HO8 := Lib.hid how8; clear how8 hg8)
                | (refine step_rules (by rfl) (.tmp 58) (.tmp 60) (by rfl) w6.heap.size (.slice A7 m c7) m (qs1.flatMap ruleC) ?_ HO7.out B2 m2 d2 (qs2.flatMap ruleC) ?_ ?_ ?_ ?_ ?_ ?_ ?_ ?_; rfl; rfl; (rw [rows_len, HLQ2.out]); (exact fun ad had j u hu => cell_below HB7.out (HQC2.out ad had j u hu)); (exact rows_one HQO2.out); (exact Z2.out); omega; (exact HB7.out.size); intro A8 c8 w8 how8 hg8; have HB8 := Lib.hid (show Below w6.heap.size w6 w8 from HB7.out.grown hg8 HB7.out.size (o_from HO7.out)); have HO8 := Lib.hid how8; clear how8 hg8))
            all_goals
              go_wp2_with fail
              go_meet
              first
                | exact ⟨w8.heap.size, A8, c8, rfl, HB8.out.size, heap_alloc_new w8 _, HO8.out.alloc _, HB8.out.alloc HB8.out.size _⟩
                | (obtain ⟨g1, g2, g3⟩ := pg_end (u0 := .slice A n c) (u1 := .slice A8 (m + m2) c8) HB8.out (by first | exact HB7.out.size | exact Nat.le_succ _ | exact Nat.le_refl _) HPX8.out HO8.out
                   exact ⟨_, A8, c8, rfl, (by first | exact HB7.out.size | exact Nat.le_succ _ | exact Nat.le_refl _), g1, g2, g3⟩)
          case rest =>
            obtain ⟨X, A8, c8, rfl, hX, hpg, hown, hbc⟩ := hcut
            have HBc := Lib.hid (HB6.out.trans (hbc.mono HB6.out.size))
            have PB := Lib.hid (fun (W : World) (hb : Below wc.heap.size wc W) => (show ProgAt W A n c A8 (m + m2) c8 ds (rs ++ rs2) from by
              refine ⟨HP6.out.hn, ?_, (HP6.out.hd.below hbc).below hb, RulesRd.below ?_ hb⟩
              · rw [List.length_append, ← HP6.out.hm, ← HQ6.out.hm]
              · have h0 := rules_of_row (W := wc) (qs := qs1 ++ qs2) (W' := wc) (B := w6.heap.size) (A := A8) (n := m + m2) (c := c8) (by rw [List.flatMap_append]; exact hown) (by rw [List.length_append, HLQ1.out, HLQ2.out]) (fun q hq => QOk.below (W := w6) ((List.mem_append.1 hq).elim (HQO1.out q) (HQO2.out q)) hbc)
                rw [List.map_append, HQS1.out, HQS2.out] at h0
                exact h0))
            have PC := Lib.hid (fun (W : World) (hb : Below wc.heap.size wc W) => (show ProgAt W none 0 0 B2 m2 d2 [] rs2 from ⟨rfl, HQ6.out.hm, fun j t hj => (by simp at hj), (HQ6.out.hr.below hbc).below hb⟩))
            have TW := Lib.hid (fun (W : World) (hb : Below wc.heap.size wc W) => (HW6.out.below hbc).below hb)
            have K2 := fun (W : World) (hb : Below wc.heap.size wc W) => (show W.cell? ⟨w.heap.size, 0, none⟩ = some (.slice A n c) ∧ W.cell? ⟨w.heap.size, 1, none⟩ = some (.slice B m d) ∧ W.cell? ⟨w.heap.size + 1, 1, none⟩ = some (.slice B2 m2 d2) ∧ W.cell? ⟨X, 0, none⟩ = some (.slice A n c) ∧ W.cell? ⟨X, 1, none⟩ = some (.slice A8 (m + m2) c8) from ⟨cell_below hb (cell_below hbc p0), cell_below hb (cell_below hbc p1), cell_below hb (cell_below hbc q1), cell_below hb hpg.c0, cell_below hb hpg.c1⟩)
            clear K hbc hpg hown hX
            go_wp2_with fail
            go_region_held3 (fun w' => w'.cell? ⟨w.heap.size, 0, none⟩ = some (.slice A n c) ∧ w'.cell? ⟨w.heap.size, 1, none⟩ = some (.slice B m d) ∧ w'.cell? ⟨w.heap.size + 1, 1, none⟩ = some (.slice B2 m2 d2) ∧ w'.cell? ⟨X, 0, none⟩ = some (.slice A n c) ∧ w'.cell? ⟨X, 1, none⟩ = some (.slice A8 (m + m2) c8))
              (exact K2 _ (by first | exact HBB.out | exact HBC.out | exact (Below.refl _ _).drew | exact Below.refl _ _))
              (first
                | (go_at_call 16; ((with_reducible refine (HPB.out _ _ _ (PB.out _ (by first | exact HBB.out | exact HBC.out | exact (Below.refl _ _).drew | exact Below.refl _ _)) (TW.out _ (by first | exact HBB.out | exact HBC.out | exact (Below.refl _ _).drew | exact Below.refl _ _))).mono ?_); rintro e w9 ⟨rfl, hb9⟩; have HBB := Lib.hid (show Below wc.heap.size wc w9 from (by first | exact HBB.out.trans (hb9.mono HBB.out.size) | exact HBC.out.trans (hb9.mono HBC.out.size) | exact ((Below.refl _ _).drew).trans hb9 | exact hb9)); clear hb9))
                | (go_at_call 16; ((with_reducible refine (HPC.out _ (PC.out _ (by first | exact HBB.out | exact HBC.out | exact (Below.refl _ _).drew | exact Below.refl _ _)) (TW.out _ (by first | exact HBB.out | exact HBC.out | exact (Below.refl _ _).drew | exact Below.refl _ _))).mono ?_); rintro e w10 ⟨rfl, hb9⟩; have HBC := Lib.hid (show Below wc.heap.size wc w10 from (by first | exact HBB.out.trans (hb9.mono HBB.out.size) | exact HBC.out.trans (hb9.mono HBC.out.size) | exact ((Below.refl _ _).drew).trans hb9 | exact hb9)); clear hb9)))
            all_goals
              go_wp2_with fail
              go_ret
              first
                | exact ⟨rfl, HBc.out.trans (HBB.out.mono HBc.out.size)⟩
                | exact ⟨rfl, HBc.out.trans (HBC.out.mono HBc.out.size)⟩
end Go.Proofs.YtminbdcabacfbaaGreatDoor.V
