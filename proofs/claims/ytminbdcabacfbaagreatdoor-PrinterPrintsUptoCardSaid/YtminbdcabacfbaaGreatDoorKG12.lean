/- Arguments that are atoms, literals, rules, facts, programs, opened. lambrequinref07.Fact. lambrequinlaw07.PrinterPieces. lambrequinref07.mayTerm. lambrequinref07.mayAtom. lambrequinref07.mayLiteral. -/
import Derived.Deep.Slices
import Derived.Deep.RegionHeld3
import Derived.Test.YtminbdcabacfbaaGreatDoorKG11
namespace Go.Proofs.YtminbdcabacfbaaGreatDoor.V
set_option linter.unusedSimpArgs false
set_option linter.unusedVariables false
open Go.ChangeShapes Go.WideShapes Go.ChangeAt Go.RowKit
set_option maxRecDepth 100000

section
variable {H : Type} {enc : TypeId × Value → H} {W : World} {base : Nat} {sp : Nat → Bool} {held : Bool} {fuel : Nat}
theorem bulk_mem {e : DataW H} : ∀ {l : List (DataW H)}, e ∈ l → Rows.uptoBulk e ≤ Rows.uptoBulkAll l
  | [], h => by cases h
  | x :: r, h => by
    simp only [Rows.uptoBulkAll]
    rcases List.mem_cons.1 h with rfl | h
    · omega
    · have := bulk_mem h
      omega
theorem pick_list {α : Type} {Q : Nat → α → Prop} : ∀ n : Nat, (∀ i, i < n → ∃ a, Q i a) → ∃ xs : List α, xs.length = n ∧ ∀ i a, xs[i]? = some a → Q i a
  | 0, _ => ⟨[], rfl, fun i a h => by simp at h⟩
  | n + 1, h => by
    obtain ⟨xs, hl, hx⟩ := pick_list n (fun i hi => h i (by omega))
    obtain ⟨a, ha⟩ := h n (by omega)
    refine ⟨xs ++ [a], by simp [hl], fun i b hb => ?_⟩
    rcases Nat.lt_or_ge i n with hi | hi
    · rw [List.getElem?_append_left (by omega)] at hb
      exact hx i b hb
    · have hi' : i = n := by
        have := (List.getElem?_eq_some_iff.1 hb).1
        simp [hl] at this
        omega
      subst hi'
      rw [← hl] at hb
      have hb' : a = b := by simpa using hb
      subst hb'
      exact ha
theorem range_bulk {α : Type} (w : α → Nat) (D : Nat → DataW H) : ∀ (L : List α) (k : Nat), (∀ i a, L[i]? = some a → w a ≤ 26 * Rows.uptoBulk (D (k + i))) → (L.map w).sum ≤ 26 * Rows.uptoBulkAll ((List.range' k L.length).map D)
  | [], k, _ => by simp
  | a :: r, k, h => by
    have h0 := h 0 a rfl
    have h1 := range_bulk w D r (k + 1) fun i b hb => by
      have := h (i + 1) b (by simpa using hb)
      rw [show k + 1 + i = k + (i + 1) by omega]
      exact this
    rw [List.map_cons, List.sum_cons, List.length_cons, List.range'_succ, List.map_cons, Rows.uptoBulkAll]
    rw [Nat.add_zero] at h0
    omega
/-- What lies in a list's cells, thing by thing. -/
theorem trod_list {α : Type} {t e : TypeId} {sz : Nat} {cs : List Value} {x : DataW H × List MemPlace} (Q : α → List Value → Prop) (w : α → Nat) (ht : Tryz.prog.underlying t = some (.slice e)) (hsz : Tryz.prog.cellsOf e = sz)
    (hone : ∀ (fuel : Nat) (cs' : List Value) (x' : DataW H × List MemPlace), DataW.trod enc Tryz.prog W base sp held fuel e cs' = some x' → ∃ a, Q a cs' ∧ w a ≤ 26 * Rows.uptoBulk x'.1)
    (h : DataW.trod enc Tryz.prog W base sp held fuel t cs = some x) :
    ∃ (A : Option Addr) (n c : Nat) (L : List α), cs = [.slice A n c] ∧ n = L.length ∧ n ≤ c ∧ (∀ j a, L[j]? = some a → ∃ ad cs', A = some ad ∧ Q a cs' ∧ cs'.length = sz ∧ (∀ u, cs'[0]? = some u → W.cell? (ad.add (j * sz)) = some u) ∧ ∀ i u, 0 < i → cs'[i]? = some u → W.cell? ⟨(ad.add (j * sz)).block, (ad.add (j * sz)).off + i, none⟩ = some u) ∧ (L.map w).sum + 26 ≤ 26 * Rows.uptoBulk x.1 ∧ (A = none → n = 0 ∧ c = 0) := by
  rcases Go.Deep.open_slice ht h with ⟨rfl, rfl⟩ | ⟨a, len, cap, m, n, D, Pl, rfl, hb, hl, hm, hmm, rfl, hx⟩
  · exact ⟨none, 0, 0, [], rfl, rfl, Nat.le_refl _, fun j a h => by simp at h, by simp [Rows.uptoBulk], fun _ => ⟨rfl, rfl⟩⟩
  · have hlm : len ≤ m := by
      rw [hmm]
      split <;> omega
    rw [hsz] at hx
    obtain ⟨L, hL, hLs⟩ := pick_list (Q := fun i (b : α) => (∃ cs', Q b cs' ∧ cs'.length = sz ∧ ∀ k, k < sz → W.cell? ((a.add (i * sz)).add k) = cs'[k]?) ∧ w b ≤ 26 * Rows.uptoBulk (D i)) len (fun i hi => by
      obtain ⟨cs', k1, k2⟩ := hx i (by omega)
      obtain ⟨b, hb1, hb2⟩ := hone n cs' _ k2
      obtain ⟨_, g2, g3⟩ := World.cells?_some k1
      exact ⟨b, ⟨cs', hb1, g2, g3⟩, hb2⟩)
    refine ⟨some a, len, cap, L, rfl, hL.symm, hl, fun j b hj => ?_, ?_, fun h => by cases h⟩
    · obtain ⟨⟨cs', q1, q2, q3⟩, _⟩ := hLs j b hj
      refine ⟨a, cs', rfl, q1, q2, fun u hu => ?_, fun i u hi hu => ?_⟩
      · have hlt := (List.getElem?_eq_some_iff.1 hu).1
        exact (q3 0 (by omega)).trans hu
      · have hlt := (List.getElem?_eq_some_iff.1 hu).1
        have := (q3 i (by omega)).trans hu
        rw [show (a.add (j * sz)).add i = if i = 0 then a.add (j * sz) else { a.add (j * sz) with off := (a.add (j * sz)).off + i, spot := none } from rfl, if_neg (by omega)] at this
        exact this
    · have h1 := range_bulk w D L 0 fun i b hb => by
        rw [Nat.zero_add]
        exact (hLs i b hb).2
      rw [hL, ← List.range_eq_range'] at h1
      simp only [Rows.uptoBulk]
      omega
theorem lit_ok64 {n : Int} (h : (Lit.int .i64 n).wf = true) : nOk n := by
  simp only [Lit.wf, Bool.and_eq_true, decide_eq_true_eq] at h
  have h0 : IntKind.i64.min = -9223372036854775808 := rfl
  have h1 : IntKind.i64.max = 9223372036854775807 := rfl
  unfold nOk
  omega
theorem bs_of (s : ByteArray) : bs s.data.toList = s := of_bytes s
/-- Pieces in line are the whole. -/
theorem drop_split {cs : List Value} {k m : Nat} {a : List Value} (h : (cs.drop k).take m = a) (ha : a.length = m) : cs.drop k = a ++ cs.drop (k + m) := by
  rw [← List.take_append_drop m (cs.drop k), h, List.drop_drop]
theorem drop_all {cs : List Value} {n : Nat} (h : cs.length = n) : cs.drop n = [] := List.drop_eq_nil_of_le (by omega)
theorem trod_val {cs : List Value} {x : DataW H × List MemPlace} (h : DataW.trod enc Tryz.prog W base sp held fuel 43 cs = some x) :
    ∃ (s : Bool) (y : List UInt8) (n : Int), cs = [.bool s, .string (bs y), .int .i64 n] ∧ nOk n ∧ y.length + 4 ≤ Rows.uptoBulk x.1 := by
  obtain ⟨xs, n, _, rfl, hl, hlen, hf⟩ := DataW.trod_struct (Tryz.underlying43) h
  match xs, hlen with
  | [y0, y1, y2], _ =>
    obtain ⟨k, e0, g0⟩ := DataW.trod_bool (Tryz.underlying4) (show _ = some y0 from hf 0 _ rfl)
    obtain ⟨s, e1, g1, hs⟩ := DataW.trod_string (Tryz.underlying9) (show _ = some y1 from hf 1 _ rfl)
    obtain ⟨m, e2, g2, hm⟩ := DataW.trod_int (Tryz.underlying2) (show _ = some y2 from hf 2 _ rfl)
    refine ⟨k, s.data.toList, m, ?_, lit_ok64 hm, ?_⟩
    · have s0 := drop_split (k := 0) (m := 1) (by exact e0) rfl
      have s1 := drop_split (k := 1) (m := 1) (by exact e1) rfl
      have s2 := drop_split (k := 2) (m := 1) (by exact e2) rfl
      rw [drop_all (n := 3) (hl.trans (by kernel_rfl))] at s2
      rw [List.drop_zero] at s0
      rw [s0, s1, s2, bs_of]
      rfl
    · simp only [List.map_cons, List.map_nil, Rows.uptoBulk, Rows.uptoBulkAll]
      rw [g0, g1, g2]
      simp only [Rows.uptoBulk]
      omega
theorem trod_term {cs : List Value} {x : DataW H × List MemPlace} (h : DataW.trod enc Tryz.prog W base sp held fuel 45 cs = some x) :
    ∃ t : TermL, (cs = termC t ∧ nOk t.n) ∧ wT t ≤ 26 * Rows.uptoBulk x.1 := by
  obtain ⟨xs, n, _, rfl, hl, hlen, hf⟩ := DataW.trod_struct (Tryz.underlying45) h
  match xs, hlen with
  | [y0, y1, y2], _ =>
    obtain ⟨k, e0, g0⟩ := DataW.trod_bool (Tryz.underlying4) (show _ = some y0 from hf 0 _ rfl)
    obtain ⟨s, e1, g1, hs⟩ := DataW.trod_string (Tryz.underlying9) (show _ = some y1 from hf 1 _ rfl)
    obtain ⟨vs, vy, vn, e2, hn, hb⟩ := trod_val (show _ = some y2 from hf 2 _ rfl)
    refine ⟨⟨k, s.data.toList, vs, vy, vn⟩, ⟨?_, hn⟩, ?_⟩
    · have s0 := drop_split (k := 0) (m := 1) (by exact e0) rfl
      have s1 := drop_split (k := 1) (m := 1) (by exact e1) rfl
      have s2 := drop_split (k := 2) (m := 3) (by exact e2) rfl
      rw [drop_all (n := 5) (hl.trans (by kernel_rfl))] at s2
      rw [List.drop_zero] at s0
      rw [s0, s1, s2]
      simp only [termC, bs_of]
      rfl
    · simp only [List.map_cons, List.map_nil, Rows.uptoBulk, Rows.uptoBulkAll]
      rw [g0, g1]
      simp only [Rows.uptoBulk, wT]
      omega
theorem trod_terms {cs : List Value} {x : DataW H × List MemPlace} (h : DataW.trod enc Tryz.prog W base sp held fuel 23 cs = some x) :
    ∃ (A : Option Addr) (n c : Nat) (L : List TermL), cs = [.slice A n c] ∧ n = L.length ∧ n ≤ c ∧ TermsRd W A L ∧ (∀ t ∈ L, nOk t.n) ∧ (L.map wT).sum + 26 ≤ 26 * Rows.uptoBulk x.1 := by
  obtain ⟨A, n, c, L, h1, h2, h3, h4, h5, h6⟩ := trod_list (fun (t : TermL) cs' => cs' = termC t ∧ nOk t.n) wT (Tryz.underlying23) (by kernel_rfl) (fun f cs' x' hh => trod_term hh) h
  refine ⟨A, n, c, L, h1, h2, h3, fun j t hj => ?_, fun t ht => ?_, h5⟩
  · obtain ⟨ad, cs', rfl, ⟨rfl, _⟩, _, q0, q⟩ := h4 j t hj
    exact ⟨ad, rfl, q0 _ rfl, q 1 _ (by omega) rfl, q 2 _ (by omega) rfl, q 3 _ (by omega) rfl, q 4 _ (by omega) rfl⟩
  · obtain ⟨j, hj⟩ := List.getElem?_of_mem ht
    obtain ⟨_, _, _, ⟨_, hn⟩, _⟩ := h4 j t hj
    exact hn
/-- An atom's cells. -/
theorem trod_atom {cs : List Value} {x : DataW H × List MemPlace} (h : DataW.trod enc Tryz.prog W base sp held fuel 25 cs = some x) :
    ∃ (a : AtomL) (A : Option Addr) (n c : Nat), cs = [.string (bs a.p), .slice A n c] ∧ n = a.a.length ∧ n ≤ c ∧ TermsRd W A a.a ∧ nA a ∧ wA a ≤ 26 * Rows.uptoBulk x.1 := by
  obtain ⟨xs, n, _, rfl, hl, hlen, hf⟩ := DataW.trod_struct (Tryz.underlying25) h
  match xs, hlen with
  | [y0, y1], _ =>
    obtain ⟨s, e0, g0, hs⟩ := DataW.trod_string (Tryz.underlying9) (show _ = some y0 from hf 0 _ rfl)
    obtain ⟨A, n', c, L, e1, h2, h3, h4, h5, h6⟩ := trod_terms (show _ = some y1 from hf 1 _ rfl)
    refine ⟨⟨s.data.toList, L⟩, A, n', c, ?_, h2, h3, h4, h5, ?_⟩
    · have s0 := drop_split (k := 0) (m := 1) (by exact e0) rfl
      have s1 := drop_split (k := 1) (m := 1) (by exact e1) rfl
      rw [drop_all (n := 2) (hl.trans (by kernel_rfl))] at s1
      rw [List.drop_zero] at s0
      rw [s0, s1, bs_of]
      rfl
    · simp only [List.map_cons, List.map_nil, Rows.uptoBulk, Rows.uptoBulkAll]
      rw [g0]
      simp only [Rows.uptoBulk, wA]
      omega
/-- A literal's cells, wherever its atom's terms lie. -/
def LitCs (W : World) (l : LitL) (cs : List Value) : Prop := ∃ (kk : Int) (A : Option Addr) (n c : Nat), kk.toNat = l.k ∧ n = l.a.a.length ∧ n ≤ c ∧ TermsRd W A l.a.a ∧ cs = [.int .i64 kk, .string (bs l.a.p), .slice A n c, .string (bs l.o), .bool l.l.v, .string (bs l.l.x), .bool l.l.s, .string (bs l.l.t), .int .i64 l.l.n, .bool l.r.v, .string (bs l.r.x), .bool l.r.s, .string (bs l.r.t), .int .i64 l.r.n]
theorem trod_lit {cs : List Value} {x : DataW H × List MemPlace} (h : DataW.trod enc Tryz.prog W base sp held fuel 47 cs = some x) :
    ∃ l : LitL, (LitCs W l cs ∧ nL l) ∧ wL l ≤ 26 * Rows.uptoBulk x.1 := by
  obtain ⟨xs, n, _, rfl, hl, hlen, hf⟩ := DataW.trod_struct (Tryz.underlying47) h
  match xs, hlen with
  | [y0, y1, y2, y3, y4], _ =>
    obtain ⟨kk, e0, g0, _⟩ := DataW.trod_int (Tryz.underlying3) (show _ = some y0 from hf 0 _ rfl)
    obtain ⟨a, A, n', c, e1, h2, h3, h4, h5, h6⟩ := trod_atom (show _ = some y1 from hf 1 _ rfl)
    obtain ⟨s, e2, g2, hs⟩ := DataW.trod_string (Tryz.underlying9) (show _ = some y2 from hf 2 _ rfl)
    obtain ⟨tl, ⟨e3, n3⟩, w3⟩ := trod_term (show _ = some y3 from hf 3 _ rfl)
    obtain ⟨tr, ⟨e4, n4⟩, w4⟩ := trod_term (show _ = some y4 from hf 4 _ rfl)
    refine ⟨⟨kk.toNat, a, s.data.toList, tl, tr⟩, ⟨⟨kk, A, n', c, rfl, h2, h3, h4, ?_⟩, h5, n3, n4⟩, ?_⟩
    · have s0 := drop_split (k := 0) (m := 1) (by exact e0) rfl
      have s1 := drop_split (k := 1) (m := 2) (by exact e1) rfl
      have s2 := drop_split (k := 3) (m := 1) (by exact e2) rfl
      have s3 := drop_split (k := 4) (m := 5) (by exact e3) rfl
      have s4 := drop_split (k := 9) (m := 5) (by exact e4) rfl
      rw [drop_all (n := 14) (hl.trans (by kernel_rfl))] at s4
      rw [List.drop_zero] at s0
      rw [s0, s1, s2, s3, s4, bs_of]
      rfl
    · simp only [List.map_cons, List.map_nil, Rows.uptoBulk, Rows.uptoBulkAll]
      rw [g0, g2]
      simp only [Rows.uptoBulk, wL]
      omega
theorem trod_lits {cs : List Value} {x : DataW H × List MemPlace} (h : DataW.trod enc Tryz.prog W base sp held fuel 48 cs = some x) :
    ∃ (A : Option Addr) (n c : Nat) (L : List LitL), cs = [.slice A n c] ∧ n = L.length ∧ n ≤ c ∧ LitsRd W A L ∧ (∀ t ∈ L, nL t) ∧ (L.map wL).sum + 26 ≤ 26 * Rows.uptoBulk x.1 := by
  obtain ⟨A, n, c, L, h1, h2, h3, h4, h5, h6⟩ := trod_list (fun (t : LitL) cs' => LitCs W t cs' ∧ nL t) wL (Tryz.underlying48) (by kernel_rfl) (fun f cs' x' hh => trod_lit hh) h
  refine ⟨A, n, c, L, h1, h2, h3, fun j t hj => ?_, fun t ht => ?_, h5⟩
  · obtain ⟨ad, cs', rfl, ⟨⟨kk, Aa, na, ca, k1, k2, k3, k4, rfl⟩, _⟩, _, q0, q⟩ := h4 j t hj
    exact ⟨ad, rfl, ⟨kk, q0 _ rfl, k1⟩, ⟨Aa, na, ca, k2, k3, q 1 _ (by omega) rfl, q 2 _ (by omega) rfl, k4⟩, q 3 _ (by omega) rfl, ⟨q 4 _ (by omega) rfl, q 5 _ (by omega) rfl, q 6 _ (by omega) rfl, q 7 _ (by omega) rfl, q 8 _ (by omega) rfl⟩, ⟨q 9 _ (by omega) rfl, q 10 _ (by omega) rfl, q 11 _ (by omega) rfl, q 12 _ (by omega) rfl, q 13 _ (by omega) rfl⟩⟩
  · obtain ⟨j, hj⟩ := List.getElem?_of_mem ht
    obtain ⟨_, _, _, ⟨_, hn⟩, _⟩ := h4 j t hj
    exact hn
/-- A rule's cells. -/
def RuleCs (W : World) (r : RuleL) (cs : List Value) : Prop := ∃ (A : Option Addr) (n c : Nat) (B : Option Addr) (m d : Nat), n = r.h.a.length ∧ n ≤ c ∧ m = r.b.length ∧ m ≤ d ∧ TermsRd W A r.h.a ∧ LitsRd W B r.b ∧ cs = [.string (bs r.h.p), .slice A n c, .slice B m d]
theorem trod_rule {cs : List Value} {x : DataW H × List MemPlace} (h : DataW.trod enc Tryz.prog W base sp held fuel 50 cs = some x) :
    ∃ r : RuleL, (RuleCs W r cs ∧ nR r) ∧ wR r ≤ 26 * Rows.uptoBulk x.1 := by
  obtain ⟨xs, n, _, rfl, hl, hlen, hf⟩ := DataW.trod_struct (Tryz.underlying50) h
  match xs, hlen with
  | [y0, y1], _ =>
    obtain ⟨a, A, n', c, e0, h2, h3, h4, h5, h6⟩ := trod_atom (show _ = some y0 from hf 0 _ rfl)
    obtain ⟨B, m, d, L, e1, k2, k3, k4, k5, k6⟩ := trod_lits (show _ = some y1 from hf 1 _ rfl)
    refine ⟨⟨a, L⟩, ⟨⟨A, n', c, B, m, d, h2, h3, k2, k3, h4, k4, ?_⟩, h5, k5⟩, ?_⟩
    · have s0 := drop_split (k := 0) (m := 2) (by exact e0) rfl
      have s1 := drop_split (k := 2) (m := 1) (by exact e1) rfl
      rw [drop_all (n := 3) (hl.trans (by kernel_rfl))] at s1
      rw [List.drop_zero] at s0
      rw [s0, s1]
      rfl
    · simp only [List.map_cons, List.map_nil, Rows.uptoBulk, Rows.uptoBulkAll, wR]
      omega
theorem trod_rules {cs : List Value} {x : DataW H × List MemPlace} (h : DataW.trod enc Tryz.prog W base sp held fuel 34 cs = some x) :
    ∃ (A : Option Addr) (n c : Nat) (L : List RuleL), cs = [.slice A n c] ∧ n = L.length ∧ n ≤ c ∧ RulesRd W A L ∧ (∀ t ∈ L, nR t) ∧ (L.map wR).sum + 26 ≤ 26 * Rows.uptoBulk x.1 ∧ (A = none → n = 0 ∧ c = 0) := by
  obtain ⟨A, n, c, L, h1, h2, h3, h4, h5, h6⟩ := trod_list (fun (t : RuleL) cs' => RuleCs W t cs' ∧ nR t) wR (Tryz.underlying34) (by kernel_rfl) (fun f cs' x' hh => trod_rule hh) h
  refine ⟨A, n, c, L, h1, h2, h3, fun j t hj => ?_, fun t ht => ?_, h5, h6⟩
  · obtain ⟨ad, cs', rfl, ⟨⟨Aa, na, ca, Bb, mb, cb, k1, k2, k3, k4, k5, k6, rfl⟩, _⟩, _, q0, q⟩ := h4 j t hj
    exact ⟨ad, rfl, ⟨Aa, na, ca, k1, k2, q0 _ rfl, q 1 _ (by omega) rfl, k5⟩, Bb, mb, cb, k3, k4, q 2 _ (by omega) rfl, k6⟩
  · obtain ⟨j, hj⟩ := List.getElem?_of_mem ht
    obtain ⟨_, _, _, ⟨_, hn⟩, _⟩ := h4 j t hj
    exact hn
theorem trod_decl {cs : List Value} {x : DataW H × List MemPlace} (h : DataW.trod enc Tryz.prog W base sp held fuel 86 cs = some x) :
    ∃ d : DeclL, (cs = declC d ∧ nOk d.n) ∧ wD d ≤ 26 * Rows.uptoBulk x.1 := by
  obtain ⟨xs, n, _, rfl, hl, hlen, hf⟩ := DataW.trod_struct (Tryz.underlying86) h
  match xs, hlen with
  | [y0, y1], _ =>
    obtain ⟨s, e0, g0, hs⟩ := DataW.trod_string (Tryz.underlying9) (show _ = some y0 from hf 0 _ rfl)
    obtain ⟨m, e1, g1, hm⟩ := DataW.trod_int (Tryz.underlying3) (show _ = some y1 from hf 1 _ rfl)
    refine ⟨⟨s.data.toList, m⟩, ⟨?_, lit_ok64 hm⟩, ?_⟩
    · have s0 := drop_split (k := 0) (m := 1) (by exact e0) rfl
      have s1 := drop_split (k := 1) (m := 1) (by exact e1) rfl
      rw [drop_all (n := 2) (hl.trans (by kernel_rfl))] at s1
      rw [List.drop_zero] at s0
      rw [s0, s1]
      simp only [declC, bs_of]
      rfl
    · simp only [List.map_cons, List.map_nil, Rows.uptoBulk, Rows.uptoBulkAll]
      rw [g0, g1]
      simp only [Rows.uptoBulk, wD]
      omega
theorem trod_decls {cs : List Value} {x : DataW H × List MemPlace} (h : DataW.trod enc Tryz.prog W base sp held fuel 33 cs = some x) :
    ∃ (A : Option Addr) (n c : Nat) (L : List DeclL), cs = [.slice A n c] ∧ n = L.length ∧ n ≤ c ∧ DeclsRd W A L ∧ (∀ t ∈ L, nOk t.n) ∧ (L.map wD).sum + 26 ≤ 26 * Rows.uptoBulk x.1 := by
  obtain ⟨A, n, c, L, h1, h2, h3, h4, h5, h6⟩ := trod_list (fun (t : DeclL) cs' => cs' = declC t ∧ nOk t.n) wD (Tryz.underlying33) (by kernel_rfl) (fun f cs' x' hh => trod_decl hh) h
  refine ⟨A, n, c, L, h1, h2, h3, fun j t hj => ?_, fun t ht => ?_, h5⟩
  · obtain ⟨ad, cs', rfl, ⟨rfl, _⟩, _, q0, q⟩ := h4 j t hj
    exact ⟨ad, rfl, q0 _ rfl, q 1 _ (by omega) rfl⟩
  · obtain ⟨j, hj⟩ := List.getElem?_of_mem ht
    obtain ⟨_, _, _, ⟨_, hn⟩, _⟩ := h4 j t hj
    exact hn
theorem trod_prog {cs : List Value} {x : DataW H × List MemPlace} (h : DataW.trod enc Tryz.prog W base sp held fuel 36 cs = some x) :
    ∃ (A : Option Addr) (n c : Nat) (B : Option Addr) (m d : Nat) (ds : List DeclL) (rs : List RuleL), cs = [.slice A n c, .slice B m d] ∧ ProgAt W A n c B m d ds rs ∧ nP ds rs ∧ wP ds rs ≤ 26 * Rows.uptoBulk x.1 ∧ (B = none → m = 0 ∧ d = 0) := by
  obtain ⟨xs, n, _, rfl, hl, hlen, hf⟩ := DataW.trod_struct (Tryz.underlying36) h
  match xs, hlen with
  | [y0, y1], _ =>
    obtain ⟨A, n', c, ds, e0, h2, h3, h4, h5, h6⟩ := trod_decls (show _ = some y0 from hf 0 _ rfl)
    obtain ⟨B, m, d, rs, e1, k2, k3, k4, k5, k6, k7⟩ := trod_rules (show _ = some y1 from hf 1 _ rfl)
    refine ⟨A, n', c, B, m, d, ds, rs, ?_, ⟨h2, k2, h4, k4⟩, ⟨h5, k5⟩, ?_, k7⟩
    · have s0 := drop_split (k := 0) (m := 1) (by exact e0) rfl
      have s1 := drop_split (k := 1) (m := 1) (by exact e1) rfl
      rw [drop_all (n := 2) (hl.trans (by kernel_rfl))] at s1
      rw [List.drop_zero] at s0
      rw [s0, s1]
      rfl
    · simp only [List.map_cons, List.map_nil, Rows.uptoBulk, Rows.uptoBulkAll, wP]
      omega
end
theorem wL_len (l : LitL) : l.a.a.length * 24 ≤ wL l := by
  have := wA_len l.a
  unfold wL
  omega
theorem sum_len {α : Type} (w : α → Nat) (k : Nat) : ∀ L : List α, (∀ a ∈ L, k ≤ w a) → L.length * k ≤ (L.map w).sum
  | [], _ => by simp
  | a :: r, h => by
    have h1 := h a (List.mem_cons_self ..)
    have h2 := sum_len w k r fun b hb => h b (List.mem_cons_of_mem _ hb)
    rw [List.map_cons, List.sum_cons, List.length_cons, Nat.succ_mul]
    omega
theorem progOk_of {ds : List DeclL} {rs : List RuleL} (hn : nP ds rs) (hw : wP ds rs ≤ 60000000) : ProgOk ds rs := by
  unfold wP at hw
  have h1 := sum_len wD 30 ds fun d _ => by unfold wD; omega
  have h2 := sum_len wR 8 rs fun r _ => by unfold wR; omega
  refine ⟨hn, by unfold wP; omega, by omega, by omega, fun r hr => ?_⟩
  have h3 := sum_mem wR hr
  have h4 := wA_len r.h
  have h5 := sum_len wL 8 r.b fun l _ => by unfold wL; omega
  have h6 : wR r = wA r.h + 8 + (r.b.map wL).sum := rfl
  refine ⟨by omega, by omega, fun l hl => ?_⟩
  have h7 := sum_mem wL hl
  have h8 := wL_len l
  omega
theorem up_of {H : Type} {l : List (DataW H)} {y : DataW H} {P : Prop} (h : Rows.uptoBulk y ≤ 1048576 → P) (hm : y ∈ l) (hk : Rows.uptoBulkAll l ≤ 1048576) : P := h (Nat.le_trans (bulk_mem hm) hk)
/-- A program that came in. -/
theorem arg_prog {H : Type} {enc : TypeId × Value → H} {W : World} {r : Reach} {b0 base : Nat} {v : Value} {y : DataW H} {ps : List MemPlace} {sp : Nat → Bool} {held : Bool} (hv : Value.okWide Tryz.prog W r b0 36 v)
    (h : DataW.Trod enc Tryz.prog W base sp held 36 v y ps) : ∃ (A : Option Addr) (n c : Nat) (B : Option Addr) (m d : Nat) (ds : List DeclL) (rs : List RuleL), v = .agg #[.slice A n c, .slice B m d] ∧ ProgAt W A n c B m d ds rs ∧ (Rows.uptoBulk y ≤ 1048576 → ProgOk ds rs ∧ wP ds rs ≤ 27262976) ∧ (B = none → m = 0 ∧ d = 0) := by
  obtain ⟨cs, rfl, hs⟩ := okWide_struct (Tryz.underlying36) hv
  obtain ⟨fuel, hf⟩ := h
  obtain ⟨A, n, c, B, m, d, ds, rs, e, h1, h2, h3, h4⟩ := trod_prog hf
  exact ⟨A, n, c, B, m, d, ds, rs, congrArg Value.agg (Array.ext' (by exact e)), h1, fun hb => ⟨progOk_of h2 (by dsimp only at h3; omega), by dsimp only at h3; omega⟩, h4⟩
end Go.Proofs.YtminbdcabacfbaaGreatDoor.V

namespace Go.Proofs.YtminbdcabacfbaaGreatDoor.V
set_option linter.unusedVariables false
set_option linter.unusedSimpArgs false
open Go.RowKit

set_option maxRecDepth 100000 in
set_option maxHeartbeats 16000000 in
theorem rfFact_calls (A : Option Addr) (n c : Nat) (p : List UInt8) (L : List TermL) (w : World) (hn : n = L.length) (hV : ValsRd w A L) (hok : ∀ t ∈ L, TermOk t) (hn2 : n < 1000000000) (hsm : wA ⟨p, L⟩ ≤ 1000000000) (hbig : (atomT ⟨p, L⟩).length ≤ 140737488355328) (hw : TabW w) :
    Calls Tryz.prog 31 #[.agg #[.string (bs p), .slice A n c]] w fun e w' => e = .returned (.string (bs (atomT ⟨p, L⟩))) ∧ Below w.heap.size w w' := by
  have hbl := (Below.refl w.heap.size w).alloc (Nat.le_refl _) (.cells #[.string (bs p), .slice A n c] 53)
  have hnw := heap_alloc_new w (.cells #[.string (bs p), .slice A n c] 53)
  have HBL := Lib.hid hbl
  have HV := Lib.hid (hV.below hbl)
  have HW := Lib.hid (hw.below hbl)
  have HN := Lib.hid hn
  have HNW := Lib.hid hnw
  have hsz : (w.alloc (.cells #[.string (bs p), .slice A n c] 53)).heap.size = w.heap.size + 1 := World.size_alloc _ _
  have HSZ := Lib.hid hsz
  have h0 := IsAt.new (v0 := .string (bs p)) (v1 := .slice none 0 0) (w.alloc (.cells #[.string (bs p), .slice A n c] 53))
  rw [hsz] at h0
  have HA0 := Lib.hid h0
  have HAT := Lib.hid (fun (Ao : Option Addr) (co : Nat) (W : World) (h : TermsRd W Ao L) (hw : TabW W) => (show Calls Tryz.prog 27 #[.agg #[.string (bs p), .slice Ao n co]] W (fun e w' => e = .returned (.string (bs (atomT ⟨p, L⟩))) ∧ Below W.heap.size W w') from rfAtom_calls Ao n co ⟨p, L⟩ W hn h ⟨by rw [hn] at hn2; exact hn2, hok⟩ hsm hbig))
  have HBB := Lib.hid (show Below (w.heap.size + 1) (w.alloc (.cells #[.string (bs p), .slice A n c] 53)) ((w.alloc (.cells #[.string (bs p), .slice A n c] 53)).alloc (.cells #[.string (bs p), .slice none 0 0] 25)) from (Below.refl _ _).alloc (by rw [hsz]; exact Nat.le_refl _) _)
  clear hbl hV hw hok hn hbig h0 hsz hsm
  have d0 := cell_of_row _ _ 0 _ _ _ hnw
  have d1 := cell_of_row _ _ 1 _ _ _ hnw
  clear hnw
  go_enter Tryz.func31, Tryz.ntmps31
  go_wp2_with fail
  go_loopw [4] (fun i wr => ∃ (k : Nat) (Ao : Option Addr) (co : Nat), k ≤ n ∧ i = .int .i64 (k : Int) ∧ IsAt (w.heap.size + 1) (.string (bs p)) (.slice Ao k co) wr ∧ wr.ownsRow (w.heap.size + 2) 45 5 (.slice Ao k co) k (termCells (L.take k)) ∧ Below (w.heap.size + 1) (w.alloc (.cells #[.string (bs p), .slice A n c] 53)) wr ∧ w.heap.size + 2 ≤ wr.heap.size) (fun i _ => n + 1 - (intOf i).toNat)
  case atStart => exact ⟨0, none, 0, Nat.zero_le _, rfl, HA0.out, World.ownsRow_nil _ _ _ _, HBB.out, by simp⟩
  case round =>
    obtain ⟨k, Ao, co, hk, rfl, hat, how, hb, hsr⟩ := hrel
    have hb' : Below (w.alloc (.cells #[.string (bs p), .slice A n c] 53)).heap.size (w.alloc (.cells #[.string (bs p), .slice A n c] 53)) wr := by rw [HSZ.out]; exact hb
    have HAR := Lib.hid hat
    have HOW := Lib.hid how
    have HB := Lib.hid hb
    have HSR := Lib.hid hsr
    have f1 := cell_below hb' (cell_of_row _ _ 1 _ _ _ HNW.out)

    by_cases hlt : k < n
    · have hd : decide ((k : Int) < (n : Int)) = true := decide_eq_true (by omega)
      obtain ⟨t, hx⟩ : ∃ t, L[k]? = some t := ⟨_, List.getElem?_eq_getElem (by rw [← HN.out]; exact hlt)⟩
      obtain ⟨a, rfl, hh⟩ := HV.out k t hx
      have hh2 := hh.below hb'
      obtain ⟨tv, tx, ts, ty, tn⟩ := t
      obtain ⟨e1, e2, c0, c1, c2⟩ := hh2
      dsimp only at e1 e2 c0 c1 c2
      subst e1
      subst e2
      have HSN := Lib.hid (show termCells (L.take (k + 1)) = termCells (L.take k) ++ [.bool false, .string ⟨#[]⟩, .bool ts, .string (bs ty), .int .i64 tn] by
        rw [List.take_add_one, hx]
        simp [termCells, termC, bs_nil])
      obtain ⟨i0, hi, hz0, hz1, hz2⟩ := info_parts trm_info
      have q1 := HAR.out.c1
      have q1a := fun o => cell_below ((Below.refl wr.heap.size wr).alloc (Nat.le_refl _) o) q1
      clear hb hb' hh hx hat how hsr
      go_wp2_with fail
      go_region_law (refine step_append_lies _ rfl (.tmp 16) (.tmp 23) 23 rfl (w.heap.size + 2) 45 i0 (.agg #[.bool false, .string ⟨#[]⟩, .bool false, .string ⟨#[]⟩, .int .i64 0]) 5 56 Tryz.underlying23 hi hz0 hz1 hz2 ?_ ?_ (.slice Ao k co) k (termCells (L.take k)) ?_ ?_ ⟨wr.heap.size, 0, none⟩ 1 1 [.bool false, .string ⟨#[]⟩, .bool ts, .string (bs ty), .int .i64 tn] ?_ ?_ ?_ ?_ ?_ ?_ ?_ ?_ _ rfl ?_; rfl; decide; rfl; exact (o_drew HOW.out).alloc _; rfl; rfl; exact o_cells #[.bool false, .string ⟨#[]⟩, .bool ts, .string (bs ty), .int .i64 tn] 45; (intro u hu; simp at hu; rcases hu with rfl | rfl | rfl | rfl | rfl <;> rfl); decide; (unfold maxLen; omega); omega; (have := HSR.out; simp; omega); intro g cap w4 hown hgrow hat hlt; have hgW : wr.grownBy w4 (Value.ownBlock (.slice Ao k co)) := un_drew (grown_trans (World.grownBy_alloc wr.drew (.cells #[.bool false, .string ⟨#[]⟩, .bool ts, .string (bs ty), .int .i64 tn] 45) (Value.ownBlock (.slice Ao k co))) hgrow); have hf4 := IsAt.grown HAR.out hgW (fun e => Nat.lt_irrefl _ (o_from HOW.out (w.heap.size + 1) e.symm)); have r1 := hf4.c1; have g1 := hf4.fr 1; have HA3 := Lib.hid hf4; have HOW3 := Lib.hid hown; have HG3 := Lib.hid hgW; clear hown hgrow hat hlt hgW hf4)
      all_goals
        go_wp2_with fail
        go_roundw
        case rel =>
          refine ⟨k + 1, some ⟨g, 0, none⟩, cap, hlt, by simp, HA3.out.set1 _, ?_, ?_, ?_⟩
          · rw [HSN.out]
            exact o_keep HOW3.out (grown_set (World.grownBy.refl _ _) 1 _) (by omega)
          · refine Below.setCell (p := ⟨w.heap.size + 1, 1, none⟩) (HB.out.grown HG3.out (by have := HSR.out; omega) (fun k hk => by have := o_from HOW.out k hk; omega)) (Nat.le_refl _) _
          · have h1 := HSR.out
            have h2 := HG3.out.size
            simp
            omega
        case measure => simp [intOf]; omega
    · have hkn : n = k := by omega
      subst hkn
      have hd : decide ((n : Int) < (n : Int)) = false := decide_eq_false (by omega)
      have hall : L.take n = L := List.take_of_length_le (by rw [← HN.out]; exact Nat.le_refl _)
      rw [hall] at how
      have HTR := Lib.hid (terms_rd how HN.out)
      have HWr := Lib.hid (HW.out.below hb')
      have q0 := HAR.out.c0
      have q1 := HAR.out.c1
      clear hb hb' hlt hk hall hsr hat how
      go_wp2_with (go_at_call 27; ((with_reducible refine (HAT.out _ _ _ HTR.out HWr.out).mono ?_); rintro e w2 ⟨rfl, hb2⟩; have HB2 := Lib.hid (HB.out.trans (hb2.mono (Nat.le_trans (Nat.le_succ _) HSR.out))); clear hb2))
      go_ret
      exact ⟨rfl, HBL.out.trans (HB2.out.mono (Nat.le_succ _))⟩
end Go.Proofs.YtminbdcabacfbaaGreatDoor.V

namespace Go.Proofs.YtminbdcabacfbaaGreatDoor.V
set_option linter.unusedVariables false
set_option linter.unusedSimpArgs false
open Go.RowKit

set_option maxRecDepth 100000
section
open Go.ChangeShapes Go.WideShapes Go.ChangeAt Go.ChangeMaps Go.Deep
open scoped Go
section
variable {H : Type} {enc : TypeId × Value → H} {W : World} {base : Nat} {sp : Nat → Bool} {held : Bool} {fuel : Nat}
theorem trod_vals {cs : List Value} {x : DataW H × List MemPlace} (h : DataW.trod enc Tryz.prog W base sp held fuel 51 cs = some x) :
    ∃ (A : Option Addr) (n c : Nat) (L : List TermL), cs = [.slice A n c] ∧ n = L.length ∧ n ≤ c ∧ ValsRd W A L ∧ (∀ t ∈ L, nOk t.n) ∧ (L.map wT).sum + 26 ≤ 26 * Rows.uptoBulk x.1 := by
  obtain ⟨A, n, c, L, h1, h2, h3, h4, h5, h6⟩ := trod_list (fun (t : TermL) cs' => cs' = [.bool t.s, .string (bs t.t), .int .i64 t.n] ∧ (t.v = false ∧ t.x = []) ∧ nOk t.n) wT (Tryz.underlying51) (by kernel_rfl) (fun f cs' x' hh => by
    obtain ⟨s, y, n, e, hn, hb⟩ := trod_val hh
    refine ⟨⟨false, [], s, y, n⟩, ⟨e, ⟨rfl, rfl⟩, hn⟩, ?_⟩
    simp only [wT, List.length_nil]
    omega) h
  refine ⟨A, n, c, L, h1, h2, h3, fun j t hj => ?_, fun t ht => ?_, h5⟩
  · obtain ⟨ad, cs', rfl, ⟨rfl, ⟨k1, k2⟩, _⟩, _, q0, q⟩ := h4 j t hj
    exact ⟨ad, rfl, k1, k2, q0 _ rfl, q 1 _ (by omega) rfl, q 2 _ (by omega) rfl⟩
  · obtain ⟨j, hj⟩ := List.getElem?_of_mem ht
    obtain ⟨_, _, _, ⟨_, _, hn⟩, _⟩ := h4 j t hj
    exact hn
/-- A fact's cells. -/
def FactCs (W : World) (f : AtomL) (cs : List Value) : Prop := ∃ (A : Option Addr) (n c : Nat), n = f.a.length ∧ n ≤ c ∧ ValsRd W A f.a ∧ cs = [.string (bs f.p), .slice A n c]
theorem trod_fact {cs : List Value} {x : DataW H × List MemPlace} (h : DataW.trod enc Tryz.prog W base sp held fuel 53 cs = some x) :
    ∃ a : AtomL, (FactCs W a cs ∧ nA a) ∧ wA a ≤ 26 * Rows.uptoBulk x.1 := by
  obtain ⟨xs, n, _, rfl, hl, hlen, hf⟩ := DataW.trod_struct (Tryz.underlying53) h
  match xs, hlen with
  | [y0, y1], _ =>
    obtain ⟨s, e0, g0, hs⟩ := DataW.trod_string (Tryz.underlying9) (show _ = some y0 from hf 0 _ rfl)
    obtain ⟨A, n', c, L, e1, h2, h3, h4, h5, h6⟩ := trod_vals (show _ = some y1 from hf 1 _ rfl)
    refine ⟨⟨s.data.toList, L⟩, ⟨⟨A, n', c, h2, h3, h4, ?_⟩, h5⟩, ?_⟩
    · have s0 := drop_split (k := 0) (m := 1) (by exact e0) rfl
      have s1 := drop_split (k := 1) (m := 1) (by exact e1) rfl
      rw [drop_all (n := 2) (hl.trans (by kernel_rfl))] at s1
      rw [List.drop_zero] at s0
      rw [s0, s1, bs_of]
      rfl
    · simp only [List.map_cons, List.map_nil, Rows.uptoBulk, Rows.uptoBulkAll]
      rw [g0]
      simp only [Rows.uptoBulk, wA]
      omega
end
theorem arg_lit {H : Type} {enc : TypeId × Value → H} {W : World} {r : Reach} {b0 base : Nat} {v : Value} {y : DataW H} {ps : List MemPlace} {sp : Nat → Bool} {held : Bool} (hv : Value.okWide Tryz.prog W r b0 47 v)
    (h : DataW.Trod enc Tryz.prog W base sp held 47 v y ps) : ∃ (l : LitL) (cs : Array Value), v = .agg cs ∧ LitCs W l cs.toList ∧ (Rows.uptoBulk y ≤ 1048576 → nL l ∧ wL l ≤ 27262976) := by
  obtain ⟨cs, rfl, hs⟩ := okWide_struct (Tryz.underlying47) hv
  obtain ⟨fuel, hf⟩ := h
  obtain ⟨l, ⟨h1, h2⟩, h3⟩ := trod_lit hf
  exact ⟨l, cs, rfl, h1, fun hb => ⟨h2, by dsimp only at h3; omega⟩⟩
theorem arg_rule {H : Type} {enc : TypeId × Value → H} {W : World} {r : Reach} {b0 base : Nat} {v : Value} {y : DataW H} {ps : List MemPlace} {sp : Nat → Bool} {held : Bool} (hv : Value.okWide Tryz.prog W r b0 50 v)
    (h : DataW.Trod enc Tryz.prog W base sp held 50 v y ps) : ∃ (l : RuleL) (cs : Array Value), v = .agg cs ∧ RuleCs W l cs.toList ∧ (Rows.uptoBulk y ≤ 1048576 → nR l ∧ wR l ≤ 27262976) := by
  obtain ⟨cs, rfl, hs⟩ := okWide_struct (Tryz.underlying50) hv
  obtain ⟨fuel, hf⟩ := h
  obtain ⟨l, ⟨h1, h2⟩, h3⟩ := trod_rule hf
  exact ⟨l, cs, rfl, h1, fun hb => ⟨h2, by dsimp only at h3; omega⟩⟩
theorem arg_fact {H : Type} {enc : TypeId × Value → H} {W : World} {r : Reach} {b0 base : Nat} {v : Value} {y : DataW H} {ps : List MemPlace} {sp : Nat → Bool} {held : Bool} (hv : Value.okWide Tryz.prog W r b0 53 v)
    (h : DataW.Trod enc Tryz.prog W base sp held 53 v y ps) : ∃ (l : AtomL) (cs : Array Value), v = .agg cs ∧ FactCs W l cs.toList ∧ (Rows.uptoBulk y ≤ 1048576 → nA l ∧ wA l ≤ 27262976) := by
  obtain ⟨cs, rfl, hs⟩ := okWide_struct (Tryz.underlying53) hv
  obtain ⟨fuel, hf⟩ := h
  obtain ⟨l, ⟨h1, h2⟩, h3⟩ := trod_fact hf
  exact ⟨l, cs, rfl, h1, fun hb => ⟨h2, by dsimp only at h3; omega⟩⟩
end

theorem row_lt {w : World} {k : Nat} {o : Obj} (h : w.heap[k]? = some o) : k < w.heap.size := (Array.getElem?_eq_some_iff.1 h).1

set_option maxRecDepth 100000 in
set_option maxHeartbeats 32000000 in
theorem pieces_calls (l : LitL) (r : RuleL) (f : AtomL) (E0 E1 E2 : Array Value) (w : World) (h0 : LitCs w l E0.toList) (h1 : RuleCs w r E1.toList) (h2 : FactCs w f E2.toList) (o0 : nL l ∧ wL l ≤ 27262976) (o1 : nR r ∧ wR r ≤ 27262976) (o2 : nA f ∧ wA f ≤ 27262976) (hE : ErrW w) (hW : TabW w) :
    Calls Tryz.prog 8 #[.agg E0, .agg E1, .agg E2] w fun e w' => e = .returned (.bool true) ∧ Below w.heap.size w w' := by
  obtain ⟨kk, A, n, c, hk, hn, hc, hT, e0⟩ := h0
  obtain ⟨A1, n1, c1, B1, m1, d1, hn1, hc1, hm1, hd1, hT1, hL1, e1⟩ := h1
  obtain ⟨A2, n2, c2, hn2, hc2, hV2, e2⟩ := h2
  obtain rfl : E0 = #[.int .i64 kk, .string (bs l.a.p), .slice A n c, .string (bs l.o), .bool l.l.v, .string (bs l.l.x), .bool l.l.s, .string (bs l.l.t), .int .i64 l.l.n, .bool l.r.v, .string (bs l.r.x), .bool l.r.s, .string (bs l.r.t), .int .i64 l.r.n] := Array.ext' e0
  obtain rfl : E1 = #[.string (bs r.h.p), .slice A1 n1 c1, .slice B1 m1 d1] := Array.ext' e1
  obtain rfl : E2 = #[.string (bs f.p), .slice A2 n2 c2] := Array.ext' e2
  have hb0 := (((Below.refl w.heap.size w).alloc (Nat.le_refl _) (.cells #[.int .i64 kk, .string (bs l.a.p), .slice A n c, .string (bs l.o), .bool l.l.v, .string (bs l.l.x), .bool l.l.s, .string (bs l.l.t), .int .i64 l.l.n, .bool l.r.v, .string (bs l.r.x), .bool l.r.s, .string (bs l.r.t), .int .i64 l.r.n] 47)).alloc (by simp) (.cells #[.string (bs r.h.p), .slice A1 n1 c1, .slice B1 m1 d1] 50)).alloc (by simp; omega) (.cells #[.string (bs f.p), .slice A2 n2 c2] 53)
  have g0 := ((((Below.refl (w.alloc (.cells #[.int .i64 kk, .string (bs l.a.p), .slice A n c, .string (bs l.o), .bool l.l.v, .string (bs l.l.x), .bool l.l.s, .string (bs l.l.t), .int .i64 l.l.n, .bool l.r.v, .string (bs l.r.x), .bool l.r.s, .string (bs l.r.t), .int .i64 l.r.n] 47)).heap.size (w.alloc (.cells #[.int .i64 kk, .string (bs l.a.p), .slice A n c, .string (bs l.o), .bool l.l.v, .string (bs l.l.x), .bool l.l.s, .string (bs l.l.t), .int .i64 l.l.n, .bool l.r.v, .string (bs l.r.x), .bool l.r.s, .string (bs l.r.t), .int .i64 l.r.n] 47))).alloc (Nat.le_refl _) (.cells #[.string (bs r.h.p), .slice A1 n1 c1, .slice B1 m1 d1] 50)).alloc (by simp; try omega) (.cells #[.string (bs f.p), .slice A2 n2 c2] 53)).block w.heap.size (by simp)).trans (heap_alloc_new w (.cells #[.int .i64 kk, .string (bs l.a.p), .slice A n c, .string (bs l.o), .bool l.l.v, .string (bs l.l.x), .bool l.l.s, .string (bs l.l.t), .int .i64 l.l.n, .bool l.r.v, .string (bs l.r.x), .bool l.r.s, .string (bs l.r.t), .int .i64 l.r.n] 47))
  have g1' := heap_alloc_new (w.alloc (.cells #[.int .i64 kk, .string (bs l.a.p), .slice A n c, .string (bs l.o), .bool l.l.v, .string (bs l.l.x), .bool l.l.s, .string (bs l.l.t), .int .i64 l.l.n, .bool l.r.v, .string (bs l.r.x), .bool l.r.s, .string (bs l.r.t), .int .i64 l.r.n] 47)) (.cells #[.string (bs r.h.p), .slice A1 n1 c1, .slice B1 m1 d1] 50)
  rw [World.size_alloc] at g1'
  have g1 := (((Below.refl ((w.alloc (.cells #[.int .i64 kk, .string (bs l.a.p), .slice A n c, .string (bs l.o), .bool l.l.v, .string (bs l.l.x), .bool l.l.s, .string (bs l.l.t), .int .i64 l.l.n, .bool l.r.v, .string (bs l.r.x), .bool l.r.s, .string (bs l.r.t), .int .i64 l.r.n] 47)).alloc (.cells #[.string (bs r.h.p), .slice A1 n1 c1, .slice B1 m1 d1] 50)).heap.size ((w.alloc (.cells #[.int .i64 kk, .string (bs l.a.p), .slice A n c, .string (bs l.o), .bool l.l.v, .string (bs l.l.x), .bool l.l.s, .string (bs l.l.t), .int .i64 l.l.n, .bool l.r.v, .string (bs l.r.x), .bool l.r.s, .string (bs l.r.t), .int .i64 l.r.n] 47)).alloc (.cells #[.string (bs r.h.p), .slice A1 n1 c1, .slice B1 m1 d1] 50))).alloc (Nat.le_refl _) (.cells #[.string (bs f.p), .slice A2 n2 c2] 53)).block (w.heap.size + 1) (by simp)).trans g1'
  have g2 := heap_alloc_new ((w.alloc (.cells #[.int .i64 kk, .string (bs l.a.p), .slice A n c, .string (bs l.o), .bool l.l.v, .string (bs l.l.x), .bool l.l.s, .string (bs l.l.t), .int .i64 l.l.n, .bool l.r.v, .string (bs l.r.x), .bool l.r.s, .string (bs l.r.t), .int .i64 l.r.n] 47)).alloc (.cells #[.string (bs r.h.p), .slice A1 n1 c1, .slice B1 m1 d1] 50)) (.cells #[.string (bs f.p), .slice A2 n2 c2] 53)
  rw [World.size_alloc, World.size_alloc] at g2
  have HB0 := Lib.hid hb0
  have HE := Lib.hid (hE.below hb0)
  have HW := Lib.hid (hW.below hb0)
  have HTA0 := Lib.hid (hT.below hb0)
  have HTR0 := Lib.hid (hT1.below hb0)
  have HLR0 := Lib.hid (hL1.below hb0)
  have HVF0 := Lib.hid (hV2.below hb0)
  have G0 := Lib.hid g0
  have G1 := Lib.hid g1
  have G2 := Lib.hid g2
  have k0 := lenT_lit l o0.1
  have k1 := lenT_atom l.a o0.1.1
  have k2 := lenT_rule r o1.1
  have k3 := lenT_atom f o2.1
  have k4 : wA l.a ≤ wL l ∧ wT l.l ≤ wL l ∧ wT l.r ≤ wL l := by unfold wL; omega
  have ok0 : LitOk' l := litOk_of o0.1 (by omega) (by have := wL_len l; omega)
  have k5 := wA_len f
  have okf' : AtomOk f := atomOk_of o2.1 (by omega) (by omega)
  have okf := okf'.2
  have hn2b : n2 < 1000000000 := by rw [hn2]; exact okf'.1
  have ok1 : RuleOk' r := by
    have q1 := wA_len r.h
    have q2 := sum_len wL 8 r.b fun l _ => by unfold wL; omega
    have q3 : wR r = wA r.h + 8 + (r.b.map wL).sum := rfl
    refine ruleOk_of o1.1 (by omega) (by omega) (by omega) (fun x hx => ?_)
    have q4 := sum_mem wL hx
    have q5 := wL_len x
    omega
  have hs0 := o0.2
  have hs1 := o1.2
  have hs2 := o2.2
  have HFACTS := Lib.hid (And.intro hk (And.intro hn (And.intro hn1 (And.intro hm1 (And.intro hn2 (And.intro ok0 (And.intro ok1 (And.intro okf (And.intro hn2b (And.intro k0 (And.intro k1 (And.intro k2 (And.intro k3 (And.intro k4 (And.intro hs0 (And.intro hs1 hs2))))))))))))))))
  clear hb0 g0 g1 g1' g2 hE hW hT hT1 hL1 hV2 hk hn hn1 hm1 hn2 ok0 ok1 okf okf' hn2b k0 k1 k2 k3 k4 k5 hs0 hs1 hs2 o0 o1 o2 hc hc1 hd1 hc2 e0 e1 e2
  go_enter Tryz.func8, Tryz.ntmps8
  go_wp2_with (go_at_call 14; ((with_reducible refine (shown7_calls _ HE.out HW.out).mono ?_); rintro e w1 ⟨rfl, hb1⟩; have HB1 := Lib.hid (HB0.out.trans (hb1.mono HB0.out.size)); have HW1 := Lib.hid (HW.out.below hb1); have HTA := Lib.hid (HTA0.out.below hb1); have HTR := Lib.hid (HTR0.out.below hb1); have HLR := Lib.hid (HLR0.out.below hb1); have HVF := Lib.hid (HVF0.out.below hb1); have M0 := Lib.hid ((hb1.block _ (row_lt G0.out)).trans G0.out); have M1 := Lib.hid ((hb1.block _ (row_lt G1.out)).trans G1.out); have M2 := Lib.hid ((hb1.block _ (row_lt G2.out)).trans G2.out); have L0 := Lib.hid (row_lt M0.out); have L1 := Lib.hid (row_lt M1.out); have L2 := Lib.hid (row_lt M2.out); clear hb1))
  obtain ⟨hk, hn, hn1, hm1, hn2, ok0, ok1, okf, hn2b, k0, k1, k2, k3, k4, hs0, hs1, hs2⟩ := HFACTS.out
  obtain ⟨X1, hX1⟩ : ∃ X, bs (litT l) = X := ⟨_, rfl⟩
  obtain ⟨X2, hX2⟩ : ∃ X, bs (termT l.l) = X := ⟨_, rfl⟩
  obtain ⟨X3, hX3⟩ : ∃ X, bs (atomT l.a) = X := ⟨_, rfl⟩
  obtain ⟨X4, hX4⟩ : ∃ X, bs (ruleT r) = X := ⟨_, rfl⟩
  obtain ⟨X5, hX5⟩ : ∃ X, bs (atomT f) = X := ⟨_, rfl⟩
  have CL1 := Lib.hid (fun (W : World) (hb : Below w1.heap.size w1 W) => (show Calls Tryz.prog 22 #[.agg #[.int .i64 kk, .string (bs l.a.p), .slice A n c, .string (bs l.o), .bool l.l.v, .string (bs l.l.x), .bool l.l.s, .string (bs l.l.t), .int .i64 l.l.n, .bool l.r.v, .string (bs l.r.x), .bool l.r.s, .string (bs l.r.t), .int .i64 l.r.n]] W (fun e w' => e = .returned (.string X1) ∧ Below W.heap.size W w') from by rw [← hX1]; exact prLit_calls A n c kk l W hk hn (HTA.out.below hb) ok0 (by omega) (HW1.out.below hb)))
  have CL2 := Lib.hid (fun (W : World) (hb : Below w1.heap.size w1 W) => (show Calls Tryz.prog 23 #[.agg #[.int .i64 kk, .string (bs l.a.p), .slice A n c, .string (bs l.o), .bool l.l.v, .string (bs l.l.x), .bool l.l.s, .string (bs l.l.t), .int .i64 l.l.n, .bool l.r.v, .string (bs l.r.x), .bool l.r.s, .string (bs l.r.t), .int .i64 l.r.n]] W (fun e w' => e = .returned (.string X1) ∧ Below W.heap.size W w') from by rw [← hX1]; exact rfLit_calls A n c kk l W hk hn (HTA.out.below hb) ok0 (by omega) (by omega)))
  have CT1 := Lib.hid (fun (W : World) (hb : Below w1.heap.size w1 W) => (show Calls Tryz.prog 24 #[.agg #[.bool l.l.v, .string (bs l.l.x), .bool l.l.s, .string (bs l.l.t), .int .i64 l.l.n]] W (fun e w' => e = .returned (.string X2) ∧ Below W.heap.size W w') from by rw [← hX2]; exact prTerm_calls l.l W ok0.2.1 (HW1.out.below hb)))
  have CT2 := Lib.hid (fun (W : World) (hb : Below w1.heap.size w1 W) => (show Calls Tryz.prog 25 #[.agg #[.bool l.l.v, .string (bs l.l.x), .bool l.l.s, .string (bs l.l.t), .int .i64 l.l.n]] W (fun e w' => e = .returned (.string X2) ∧ Below W.heap.size W w') from by rw [← hX2]; exact rfTerm_calls l.l W ok0.2.1 (by omega)))
  have CA1 := Lib.hid (fun (W : World) (hb : Below w1.heap.size w1 W) => (show Calls Tryz.prog 26 #[.agg #[.string (bs l.a.p), .slice A n c]] W (fun e w' => e = .returned (.string X3) ∧ Below W.heap.size W w') from by rw [← hX3]; exact prAtom_calls A n c l.a W hn (HTA.out.below hb) ok0.1 (by omega) (HW1.out.below hb)))
  have CA2 := Lib.hid (fun (W : World) (hb : Below w1.heap.size w1 W) => (show Calls Tryz.prog 27 #[.agg #[.string (bs l.a.p), .slice A n c]] W (fun e w' => e = .returned (.string X3) ∧ Below W.heap.size W w') from by rw [← hX3]; exact rfAtom_calls A n c l.a W hn (HTA.out.below hb) ok0.1 (by omega) (by omega)))
  have CR1 := Lib.hid (fun (W : World) (hb : Below w1.heap.size w1 W) => (show Calls Tryz.prog 28 #[.agg #[.string (bs r.h.p), .slice A1 n1 c1, .slice B1 m1 d1]] W (fun e w' => e = .returned (.string X4) ∧ Below W.heap.size W w') from by rw [← hX4]; exact prRule_calls A1 B1 n1 c1 m1 d1 r W hn1 hm1 (HTR.out.below hb) (HLR.out.below hb) ok1 (by omega) (HW1.out.below hb)))
  have CR2 := Lib.hid (fun (W : World) (hb : Below w1.heap.size w1 W) => (show Calls Tryz.prog 29 #[.agg #[.string (bs r.h.p), .slice A1 n1 c1, .slice B1 m1 d1]] W (fun e w' => e = .returned (.string X4) ∧ Below W.heap.size W w') from by rw [← hX4]; exact rfRule_calls A1 B1 n1 c1 m1 d1 r W hn1 hm1 (HTR.out.below hb) (HLR.out.below hb) ok1 (by omega) (by omega)))
  have CF1 := Lib.hid (fun (W : World) (hb : Below w1.heap.size w1 W) => (show Calls Tryz.prog 30 #[.agg #[.string (bs f.p), .slice A2 n2 c2]] W (fun e w' => e = .returned (.string X5) ∧ Below W.heap.size W w') from by rw [← hX5]; exact prFact_calls A2 n2 c2 f.p f.a W hn2 (HVF.out.below hb) okf hn2b (show (atomT f).length ≤ _ by omega) (HW1.out.below hb)))
  have CF2 := Lib.hid (fun (W : World) (hb : Below w1.heap.size w1 W) => (show Calls Tryz.prog 31 #[.agg #[.string (bs f.p), .slice A2 n2 c2]] W (fun e w' => e = .returned (.string X5) ∧ Below W.heap.size W w') from by rw [← hX5]; exact rfFact_calls A2 n2 c2 f.p f.a W hn2 (HVF.out.below hb) okf hn2b (show wA f ≤ _ by omega) (show (atomT f).length ≤ _ by omega) (HW1.out.below hb)))
  have s1 : (X1.toList == X1.toList) = true := by simp
  have s2 : (X2.toList == X2.toList) = true := by simp
  have s3 : (X3.toList == X3.toList) = true := by simp
  have s4 : (X4.toList == X4.toList) = true := by simp
  have s5 : (X5.toList == X5.toList) = true := by simp
  have K := fun (W : World) (hb : Below w1.heap.size w1 W) => (show World.cell? W ⟨w.heap.size, 0, none⟩ = some (.int .i64 kk) ∧ World.cell? W ⟨w.heap.size, 1, none⟩ = some (.string (bs l.a.p)) ∧ World.cell? W ⟨w.heap.size, 2, none⟩ = some (.slice A n c) ∧ World.cell? W ⟨w.heap.size, 3, none⟩ = some (.string (bs l.o)) ∧ World.cell? W ⟨w.heap.size, 4, none⟩ = some (.bool l.l.v) ∧ World.cell? W ⟨w.heap.size, 5, none⟩ = some (.string (bs l.l.x)) ∧ World.cell? W ⟨w.heap.size, 6, none⟩ = some (.bool l.l.s) ∧ World.cell? W ⟨w.heap.size, 7, none⟩ = some (.string (bs l.l.t)) ∧ World.cell? W ⟨w.heap.size, 8, none⟩ = some (.int .i64 l.l.n) ∧ World.cell? W ⟨w.heap.size, 9, none⟩ = some (.bool l.r.v) ∧ World.cell? W ⟨w.heap.size, 10, none⟩ = some (.string (bs l.r.x)) ∧ World.cell? W ⟨w.heap.size, 11, none⟩ = some (.bool l.r.s) ∧ World.cell? W ⟨w.heap.size, 12, none⟩ = some (.string (bs l.r.t)) ∧ World.cell? W ⟨w.heap.size, 13, none⟩ = some (.int .i64 l.r.n) ∧ World.cell? W ⟨w.heap.size + 1, 0, none⟩ = some (.string (bs r.h.p)) ∧ World.cell? W ⟨w.heap.size + 1, 1, none⟩ = some (.slice A1 n1 c1) ∧ World.cell? W ⟨w.heap.size + 1, 2, none⟩ = some (.slice B1 m1 d1) ∧ World.cell? W ⟨w.heap.size + 2, 0, none⟩ = some (.string (bs f.p)) ∧ World.cell? W ⟨w.heap.size + 2, 1, none⟩ = some (.slice A2 n2 c2) from ⟨cell_of_row W (w.heap.size) 0 _ _ _ ((hb.block _ L0.out).trans M0.out), cell_of_row W (w.heap.size) 1 _ _ _ ((hb.block _ L0.out).trans M0.out), cell_of_row W (w.heap.size) 2 _ _ _ ((hb.block _ L0.out).trans M0.out), cell_of_row W (w.heap.size) 3 _ _ _ ((hb.block _ L0.out).trans M0.out), cell_of_row W (w.heap.size) 4 _ _ _ ((hb.block _ L0.out).trans M0.out), cell_of_row W (w.heap.size) 5 _ _ _ ((hb.block _ L0.out).trans M0.out), cell_of_row W (w.heap.size) 6 _ _ _ ((hb.block _ L0.out).trans M0.out), cell_of_row W (w.heap.size) 7 _ _ _ ((hb.block _ L0.out).trans M0.out), cell_of_row W (w.heap.size) 8 _ _ _ ((hb.block _ L0.out).trans M0.out), cell_of_row W (w.heap.size) 9 _ _ _ ((hb.block _ L0.out).trans M0.out), cell_of_row W (w.heap.size) 10 _ _ _ ((hb.block _ L0.out).trans M0.out), cell_of_row W (w.heap.size) 11 _ _ _ ((hb.block _ L0.out).trans M0.out), cell_of_row W (w.heap.size) 12 _ _ _ ((hb.block _ L0.out).trans M0.out), cell_of_row W (w.heap.size) 13 _ _ _ ((hb.block _ L0.out).trans M0.out), cell_of_row W (w.heap.size + 1) 0 _ _ _ ((hb.block _ L1.out).trans M1.out), cell_of_row W (w.heap.size + 1) 1 _ _ _ ((hb.block _ L1.out).trans M1.out), cell_of_row W (w.heap.size + 1) 2 _ _ _ ((hb.block _ L1.out).trans M1.out), cell_of_row W (w.heap.size + 2) 0 _ _ _ ((hb.block _ L2.out).trans M2.out), cell_of_row W (w.heap.size + 2) 1 _ _ _ ((hb.block _ L2.out).trans M2.out)⟩)
  clear hk hn hn1 hm1 hn2 ok0 ok1 okf hn2b k0 k1 k2 k3 k4 hs0 hs1 hs2 hX1 hX2 hX3 hX4 hX5
  clear HFACTS HE HW HTA0 HTR0 HLR0 HVF0 G0 G1 G2 HB0 M0 M1 M2 L0 L1 L2 HTA HTR HLR HVF HW1
  go_region_held3 (fun w' => World.cell? w' ⟨w.heap.size, 0, none⟩ = some (.int .i64 kk) ∧ World.cell? w' ⟨w.heap.size, 1, none⟩ = some (.string (bs l.a.p)) ∧ World.cell? w' ⟨w.heap.size, 2, none⟩ = some (.slice A n c) ∧ World.cell? w' ⟨w.heap.size, 3, none⟩ = some (.string (bs l.o)) ∧ World.cell? w' ⟨w.heap.size, 4, none⟩ = some (.bool l.l.v) ∧ World.cell? w' ⟨w.heap.size, 5, none⟩ = some (.string (bs l.l.x)) ∧ World.cell? w' ⟨w.heap.size, 6, none⟩ = some (.bool l.l.s) ∧ World.cell? w' ⟨w.heap.size, 7, none⟩ = some (.string (bs l.l.t)) ∧ World.cell? w' ⟨w.heap.size, 8, none⟩ = some (.int .i64 l.l.n) ∧ World.cell? w' ⟨w.heap.size, 9, none⟩ = some (.bool l.r.v) ∧ World.cell? w' ⟨w.heap.size, 10, none⟩ = some (.string (bs l.r.x)) ∧ World.cell? w' ⟨w.heap.size, 11, none⟩ = some (.bool l.r.s) ∧ World.cell? w' ⟨w.heap.size, 12, none⟩ = some (.string (bs l.r.t)) ∧ World.cell? w' ⟨w.heap.size, 13, none⟩ = some (.int .i64 l.r.n) ∧ World.cell? w' ⟨w.heap.size + 1, 0, none⟩ = some (.string (bs r.h.p)) ∧ World.cell? w' ⟨w.heap.size + 1, 1, none⟩ = some (.slice A1 n1 c1) ∧ World.cell? w' ⟨w.heap.size + 1, 2, none⟩ = some (.slice B1 m1 d1) ∧ World.cell? w' ⟨w.heap.size + 2, 0, none⟩ = some (.string (bs f.p)) ∧ World.cell? w' ⟨w.heap.size + 2, 1, none⟩ = some (.slice A2 n2 c2))
    (exact K _ (by first | exact HBX.out | exact (Below.refl _ _).drew | exact Below.refl _ _))
    (first
      | (go_at_call 22; ((with_reducible refine (CL1.out _ (by first | exact HBX.out | exact (Below.refl _ _).drew | exact Below.refl _ _)).mono ?_); rintro e w9 ⟨rfl, hb9⟩; have HBY := Lib.hid (show Below w1.heap.size w1 w9 from (by first | exact HBX.out.trans (hb9.mono HBX.out.size) | exact ((Below.refl _ _).drew).trans hb9 | exact hb9)); (try clear HBX); have HBX := HBY; clear HBY hb9))
      | (go_at_call 23; ((with_reducible refine (CL2.out _ (by first | exact HBX.out | exact (Below.refl _ _).drew | exact Below.refl _ _)).mono ?_); rintro e w9 ⟨rfl, hb9⟩; have HBY := Lib.hid (show Below w1.heap.size w1 w9 from (by first | exact HBX.out.trans (hb9.mono HBX.out.size) | exact ((Below.refl _ _).drew).trans hb9 | exact hb9)); (try clear HBX); have HBX := HBY; clear HBY hb9))
      | (go_at_call 24; ((with_reducible refine (CT1.out _ (by first | exact HBX.out | exact (Below.refl _ _).drew | exact Below.refl _ _)).mono ?_); rintro e w9 ⟨rfl, hb9⟩; have HBY := Lib.hid (show Below w1.heap.size w1 w9 from (by first | exact HBX.out.trans (hb9.mono HBX.out.size) | exact ((Below.refl _ _).drew).trans hb9 | exact hb9)); (try clear HBX); have HBX := HBY; clear HBY hb9))
      | (go_at_call 25; ((with_reducible refine (CT2.out _ (by first | exact HBX.out | exact (Below.refl _ _).drew | exact Below.refl _ _)).mono ?_); rintro e w9 ⟨rfl, hb9⟩; have HBY := Lib.hid (show Below w1.heap.size w1 w9 from (by first | exact HBX.out.trans (hb9.mono HBX.out.size) | exact ((Below.refl _ _).drew).trans hb9 | exact hb9)); (try clear HBX); have HBX := HBY; clear HBY hb9))
      | (go_at_call 26; ((with_reducible refine (CA1.out _ (by first | exact HBX.out | exact (Below.refl _ _).drew | exact Below.refl _ _)).mono ?_); rintro e w9 ⟨rfl, hb9⟩; have HBY := Lib.hid (show Below w1.heap.size w1 w9 from (by first | exact HBX.out.trans (hb9.mono HBX.out.size) | exact ((Below.refl _ _).drew).trans hb9 | exact hb9)); (try clear HBX); have HBX := HBY; clear HBY hb9))
      | (go_at_call 27; ((with_reducible refine (CA2.out _ (by first | exact HBX.out | exact (Below.refl _ _).drew | exact Below.refl _ _)).mono ?_); rintro e w9 ⟨rfl, hb9⟩; have HBY := Lib.hid (show Below w1.heap.size w1 w9 from (by first | exact HBX.out.trans (hb9.mono HBX.out.size) | exact ((Below.refl _ _).drew).trans hb9 | exact hb9)); (try clear HBX); have HBX := HBY; clear HBY hb9))
      | (go_at_call 28; ((with_reducible refine (CR1.out _ (by first | exact HBX.out | exact (Below.refl _ _).drew | exact Below.refl _ _)).mono ?_); rintro e w9 ⟨rfl, hb9⟩; have HBY := Lib.hid (show Below w1.heap.size w1 w9 from (by first | exact HBX.out.trans (hb9.mono HBX.out.size) | exact ((Below.refl _ _).drew).trans hb9 | exact hb9)); (try clear HBX); have HBX := HBY; clear HBY hb9))
      | (go_at_call 29; ((with_reducible refine (CR2.out _ (by first | exact HBX.out | exact (Below.refl _ _).drew | exact Below.refl _ _)).mono ?_); rintro e w9 ⟨rfl, hb9⟩; have HBY := Lib.hid (show Below w1.heap.size w1 w9 from (by first | exact HBX.out.trans (hb9.mono HBX.out.size) | exact ((Below.refl _ _).drew).trans hb9 | exact hb9)); (try clear HBX); have HBX := HBY; clear HBY hb9))
      | (go_at_call 30; ((with_reducible refine (CF1.out _ (by first | exact HBX.out | exact (Below.refl _ _).drew | exact Below.refl _ _)).mono ?_); rintro e w9 ⟨rfl, hb9⟩; have HBY := Lib.hid (show Below w1.heap.size w1 w9 from (by first | exact HBX.out.trans (hb9.mono HBX.out.size) | exact ((Below.refl _ _).drew).trans hb9 | exact hb9)); (try clear HBX); have HBX := HBY; clear HBY hb9))
      | (go_at_call 31; ((with_reducible refine (CF2.out _ (by first | exact HBX.out | exact (Below.refl _ _).drew | exact Below.refl _ _)).mono ?_); rintro e w9 ⟨rfl, hb9⟩; have HBY := Lib.hid (show Below w1.heap.size w1 w9 from (by first | exact HBX.out.trans (hb9.mono HBX.out.size) | exact ((Below.refl _ _).drew).trans hb9 | exact hb9)); (try clear HBX); have HBX := HBY; clear HBY hb9)))
  all_goals
    go_wp2_with fail
    go_ret
    exact ⟨rfl, HB1.out.trans (HBX.out.mono HB1.out.size)⟩
end Go.Proofs.YtminbdcabacfbaaGreatDoor.V

namespace Go.Proofs.YtminbdcabacfbaaGreatDoor.V
set_option linter.unusedVariables false
set_option linter.unusedSimpArgs false
open Go.RowKit

def okV : List UInt8 → Bool
  | [] => true
  | c :: r => ofB bgI c && r.all (ofB wrdI)
theorem emp (x : List UInt8) : (x.isEmpty = true ∧ (bs x).toList.isEmpty = true ∧ (bs x).toList = [] ∧ ((bs x).toList == []) = true) ∨ (x.isEmpty = false ∧ (bs x).toList.isEmpty = false ∧ ¬ (bs x).toList = [] ∧ ((bs x).toList == []) = false) := by
  rw [bs_list]
  cases x <;> simp
theorem okV_app (a b : List UInt8) (h : okV (a ++ b) = true) : okV a = true := by
  cases a with
  | nil => rfl
  | cons c r =>
    rw [List.cons_append, okV, List.all_append] at h
    rw [okV]
    simp only [Bool.and_eq_true] at h ⊢
    exact ⟨h.1, h.2.1⟩
theorem okV_first {x : List UInt8} {k : Nat} {c : UInt8} (h0 : k = 0) (h : x[k]? = some c) : okV (x.take (k + 1)) = ofB bgI c := by
  subst h0
  rw [List.take_add_one, h, List.take_zero]
  simp [okV]
theorem okV_next {x : List UInt8} {k : Nat} {c : UInt8} (h0 : ¬ k = 0) (h : x[k]? = some c) (ho : okV (x.take k) = true) : okV (x.take (k + 1)) = ofB wrdI c := by
  rw [List.take_add_one, h]
  cases hx : x.take k with
  | nil =>
    have hl : k < x.length := (List.getElem?_eq_some_iff.1 h).1
    have := congrArg List.length hx
    rw [List.length_take, List.length_nil] at this
    omega
  | cons d r =>
    rw [hx, okV] at ho
    simp only [Bool.and_eq_true] at ho
    simp [okV, ho.1, ho.2, List.all_append]
theorem okV_none {x : List UInt8} {k : Nat} (h : okV (x.take k) = false) : varL x = false := by
  have h1 : okV x = false := by
    cases h2 : okV x with
    | false => rfl
    | true =>
      have h3 := okV_app (x.take k) (x.drop k) (by rw [List.take_append_drop]; exact h2)
      rw [h] at h3
      cases h3
  cases x with
  | nil => cases h1
  | cons c r =>
    rw [okV] at h1
    rw [varL, Bool.and_assoc, h1, Bool.and_false]
theorem okV_var {x : List UInt8} (h : okV x = true) : varL x = (decide (1 ≤ x.length) && decide (x.length ≤ 32)) := by
  cases x with
  | nil => rfl
  | cons c r =>
    rw [okV] at h
    rw [varL, Bool.and_assoc, h, Bool.and_true, decide_eq_true (show 1 ≤ (c :: r).length by simp), Bool.true_and]

set_option maxRecDepth 100000 in
set_option maxHeartbeats 16000000 in
theorem rfMayT_calls (t : TermL) (w : World) (hx : t.x.length ≤ 1099511627776) :
    Calls Tryz.prog 84 #[.agg #[.bool t.v, .string (bs t.x), .bool t.s, .string (bs t.t), .int .i64 t.n]] w fun e w' => e = .returned (.bool (mayT t)) ∧ Below w.heap.size w w' := by
  obtain ⟨v, x, s, y, n⟩ := t
  dsimp only at hx ⊢
  have hbl := ((Below.refl w.heap.size w).alloc (Nat.le_refl _) (.cells #[.bool v, .string (bs x), .bool s, .string (bs y), .int .i64 n] 45)).alloc (by simp) (.cells #[.bool s, .string (bs y), .int .i64 n] 43)
  have HB0 := Lib.hid hbl
  have hbx : (bs x).toList = x := bs_list x
  have hby : (bs y).toList = y := bs_list y
  cases v with
  | false =>
    have HX := Lib.hid hbx
    have HY := Lib.hid hby
    clear hbl hx hbx hby
    cases s
    all_goals
      rcases emp x with ⟨hxe, hx1, hx2, hx3⟩ | ⟨hxe, hx1, hx2, hx3⟩
      all_goals
        rcases emp y with ⟨hye, hy1, hy2, hy3⟩ | ⟨hye, hy1, hy2, hy3⟩
        all_goals
          rcases (show (n == 0) = true ∨ (n == 0) = false by cases (n == 0) <;> simp) with hn0 | hn0
          all_goals
            have HXE := Lib.hid hxe
            have HYE := Lib.hid hye
            have HN0 := Lib.hid hn0
            clear hxe hye
            go_enter Tryz.func84, Tryz.ntmps84
            go_wp2_with fail
            go_ret
            refine ⟨?_, HB0.out⟩
            simp [mayT, HXE.out, HYE.out, HN0.out]
  | true =>
    obtain ⟨z, hz⟩ : ∃ z, bs x = z := ⟨_, rfl⟩
    have hzs : z.size = x.length := by rw [← hz, bs_size]
    have HZ := Lib.hid (show ∀ (k : Nat) (hk : k < z.size) (hk' : k < x.length), (z[k]'hk).toNat = (x[k]'hk').toNat from fun k hk hk' => by subst hz; rfl)
    have HZS := Lib.hid hzs
    have hzb : z.size ≤ 1099511627776 := by omega
    have hn0 := heap_alloc_new w (.cells #[.bool true, .string z, .bool s, .string (bs y), .int .i64 n] 45)
    have hn0' := ((Below.refl (w.alloc (.cells #[.bool true, .string z, .bool s, .string (bs y), .int .i64 n] 45)).heap.size _).alloc (Nat.le_refl _) (.cells #[.bool s, .string (bs y), .int .i64 n] 43)).block w.heap.size (by simp)
    have hn1 := heap_alloc_new (w.alloc (.cells #[.bool true, .string z, .bool s, .string (bs y), .int .i64 n] 45)) (.cells #[.bool s, .string (bs y), .int .i64 n] 43)
    rw [World.size_alloc] at hn1
    have D1 := Lib.hid (cell_of_row _ _ 1 _ _ _ (hn0'.trans hn0))
    have V0 := Lib.hid (cell_of_row _ _ 0 _ _ _ hn1)
    have V1 := Lib.hid (cell_of_row _ _ 1 _ _ _ hn1)
    have V2 := Lib.hid (cell_of_row _ _ 2 _ _ _ hn1)
    have HY := Lib.hid hby
    have hw0g : ∃ w0, (w.alloc (.cells #[.bool true, .string z, .bool s, .string (bs y), .int .i64 n] 45)).alloc (.cells #[.bool s, .string (bs y), .int .i64 n] 43) = w0 := ⟨_, rfl⟩
    rw [hz] at HB0 ⊢
    clear hbl hx hbx hby hz hzs hn0 hn0' hn1
    go_enter Tryz.func84, Tryz.ntmps84
    go_wp2_with fail
    obtain ⟨w0, hw0⟩ := hw0g
    rw [hw0] at HB0 D1 V0 V1 V2 ⊢
    clear hw0
    go_loopw [4] (fun i wr => ∃ k : Nat, k ≤ z.size ∧ i = .int .i64 (k : Int) ∧ okV (x.take k) = true ∧ w0 = wr) (fun i _ => z.size + 1 - (intOf i).toNat)
    case atStart => exact ⟨0, Nat.zero_le _, rfl, rfl, rfl⟩
    case round =>
      obtain ⟨k, hk, rfl, ho, rfl⟩ := hrel
      have HO := Lib.hid ho
      have d1 := D1.out
      clear ho
      by_cases hlt : k < z.size
      · have hd : decide ((k : Int) < (z.size : Int)) = true := decide_eq_true (by omega)
        have hlx : k < x.length := by rw [← HZS.out]; exact hlt
        have hxk : x[k]? = some (x[k]'hlx) := List.getElem?_eq_getElem hlx
        have HXK := Lib.hid hxk
        obtain ⟨c, hc⟩ : ∃ c : Int, ((z[k]'hlt).toNat : Int) = c := ⟨_, rfl⟩
        have HC := Lib.hid (show ((x[k]'hlx).toNat : Int) = c by rw [← HZ.out k hlt hlx]; exact hc)
        have hc0 : 0 ≤ c := by omega
        have hcb : 48 > c ∨ (48 ≤ c ∧ c ≤ 57) ∨ (58 ≤ c ∧ c ≤ 64) ∨ (65 ≤ c ∧ c ≤ 90) ∨ (91 ≤ c ∧ c ≤ 94) ∨ c = 95 ∨ c = 96 ∨ (97 ≤ c ∧ c ≤ 122) ∨ 122 < c := by omega
        clear hxk
        by_cases hk0 : k = 0
        · have hk0d : (((k : Nat) : Int) == 0) = true := by rw [hk0]; rfl
          rcases hcb with hcb | hcb | hcb | hcb | hcb | hcb | hcb | hcb | hcb
          · have g97 : decide ((97 : Int) ≤ c) = false := decide_eq_false (by omega)
            have g122 : decide (c ≤ 122) = true := decide_eq_true (by omega)
            have g65 : decide ((65 : Int) ≤ c) = false := decide_eq_false (by omega)
            have g90 : decide (c ≤ 90) = true := decide_eq_true (by omega)
            have g48 : decide ((48 : Int) ≤ c) = false := decide_eq_false (by omega)
            have g57 : decide (c ≤ 57) = true := decide_eq_true (by omega)
            have g95 : (c == 95) = false := by rw [beq_eq_false_iff_ne]; omega
            have HR := Lib.hid (show mayT ⟨true, x, s, y, n⟩ = false from by
              have h1 : varL x = false := okV_none (k := k + 1) (by rw [okV_first hk0 HXK.out]; unfold ofB; rw [HC.out]; simp only [bgI, wrdI, sml, figI, Bool.or_eq_false_iff, Bool.and_eq_false_iff, decide_eq_false_iff_not, beq_eq_false_iff_ne, ne_eq]; omega)
              unfold mayT
              rw [if_pos rfl, h1]
              rfl)
            clear hcb hk0
            rw [← hc] at g97 g122 g65 g90 g48 g57 g95
            clear hc hc0
            go_wp2_with fail
            go_ret
            exact ⟨by rw [HR.out]; rfl, HB0.out⟩
          · have g97 : decide ((97 : Int) ≤ c) = false := decide_eq_false (by omega)
            have g122 : decide (c ≤ 122) = true := decide_eq_true (by omega)
            have g65 : decide ((65 : Int) ≤ c) = false := decide_eq_false (by omega)
            have g90 : decide (c ≤ 90) = true := decide_eq_true (by omega)
            have g48 : decide ((48 : Int) ≤ c) = true := decide_eq_true (by omega)
            have g57 : decide (c ≤ 57) = true := decide_eq_true (by omega)
            have g95 : (c == 95) = false := by rw [beq_eq_false_iff_ne]; omega
            have HR := Lib.hid (show mayT ⟨true, x, s, y, n⟩ = false from by
              have h1 : varL x = false := okV_none (k := k + 1) (by rw [okV_first hk0 HXK.out]; unfold ofB; rw [HC.out]; simp only [bgI, wrdI, sml, figI, Bool.or_eq_false_iff, Bool.and_eq_false_iff, decide_eq_false_iff_not, beq_eq_false_iff_ne, ne_eq]; omega)
              unfold mayT
              rw [if_pos rfl, h1]
              rfl)
            clear hcb hk0
            rw [← hc] at g97 g122 g65 g90 g48 g57 g95
            clear hc hc0
            go_wp2_with fail
            go_ret
            exact ⟨by rw [HR.out]; rfl, HB0.out⟩
          · have g97 : decide ((97 : Int) ≤ c) = false := decide_eq_false (by omega)
            have g122 : decide (c ≤ 122) = true := decide_eq_true (by omega)
            have g65 : decide ((65 : Int) ≤ c) = false := decide_eq_false (by omega)
            have g90 : decide (c ≤ 90) = true := decide_eq_true (by omega)
            have g48 : decide ((48 : Int) ≤ c) = true := decide_eq_true (by omega)
            have g57 : decide (c ≤ 57) = false := decide_eq_false (by omega)
            have g95 : (c == 95) = false := by rw [beq_eq_false_iff_ne]; omega
            have HR := Lib.hid (show mayT ⟨true, x, s, y, n⟩ = false from by
              have h1 : varL x = false := okV_none (k := k + 1) (by rw [okV_first hk0 HXK.out]; unfold ofB; rw [HC.out]; simp only [bgI, wrdI, sml, figI, Bool.or_eq_false_iff, Bool.and_eq_false_iff, decide_eq_false_iff_not, beq_eq_false_iff_ne, ne_eq]; omega)
              unfold mayT
              rw [if_pos rfl, h1]
              rfl)
            clear hcb hk0
            rw [← hc] at g97 g122 g65 g90 g48 g57 g95
            clear hc hc0
            go_wp2_with fail
            go_ret
            exact ⟨by rw [HR.out]; rfl, HB0.out⟩
          · have g97 : decide ((97 : Int) ≤ c) = false := decide_eq_false (by omega)
            have g122 : decide (c ≤ 122) = true := decide_eq_true (by omega)
            have g65 : decide ((65 : Int) ≤ c) = true := decide_eq_true (by omega)
            have g90 : decide (c ≤ 90) = true := decide_eq_true (by omega)
            have g48 : decide ((48 : Int) ≤ c) = true := decide_eq_true (by omega)
            have g57 : decide (c ≤ 57) = false := decide_eq_false (by omega)
            have g95 : (c == 95) = false := by rw [beq_eq_false_iff_ne]; omega
            have HW := Lib.hid (show okV (x.take (k + 1)) = true from by rw [okV_first hk0 HXK.out]; unfold ofB; rw [HC.out]; simp only [bgI, wrdI, sml, figI, Bool.or_eq_true, Bool.and_eq_true, decide_eq_true_eq, beq_iff_eq]; omega)
            clear hcb hk0
            rw [← hc] at g97 g122 g65 g90 g48 g57 g95
            clear hc hc0
            go_wp2_with fail
            go_roundw
            case rel => exact ⟨k + 1, by omega, by simp, HW.out, by first | rfl | trivial⟩
            case measure => simp [intOf]; omega
          · have g97 : decide ((97 : Int) ≤ c) = false := decide_eq_false (by omega)
            have g122 : decide (c ≤ 122) = true := decide_eq_true (by omega)
            have g65 : decide ((65 : Int) ≤ c) = true := decide_eq_true (by omega)
            have g90 : decide (c ≤ 90) = false := decide_eq_false (by omega)
            have g48 : decide ((48 : Int) ≤ c) = true := decide_eq_true (by omega)
            have g57 : decide (c ≤ 57) = false := decide_eq_false (by omega)
            have g95 : (c == 95) = false := by rw [beq_eq_false_iff_ne]; omega
            have HR := Lib.hid (show mayT ⟨true, x, s, y, n⟩ = false from by
              have h1 : varL x = false := okV_none (k := k + 1) (by rw [okV_first hk0 HXK.out]; unfold ofB; rw [HC.out]; simp only [bgI, wrdI, sml, figI, Bool.or_eq_false_iff, Bool.and_eq_false_iff, decide_eq_false_iff_not, beq_eq_false_iff_ne, ne_eq]; omega)
              unfold mayT
              rw [if_pos rfl, h1]
              rfl)
            clear hcb hk0
            rw [← hc] at g97 g122 g65 g90 g48 g57 g95
            clear hc hc0
            go_wp2_with fail
            go_ret
            exact ⟨by rw [HR.out]; rfl, HB0.out⟩
          · have g97 : decide ((97 : Int) ≤ c) = false := decide_eq_false (by omega)
            have g122 : decide (c ≤ 122) = true := decide_eq_true (by omega)
            have g65 : decide ((65 : Int) ≤ c) = true := decide_eq_true (by omega)
            have g90 : decide (c ≤ 90) = false := decide_eq_false (by omega)
            have g48 : decide ((48 : Int) ≤ c) = true := decide_eq_true (by omega)
            have g57 : decide (c ≤ 57) = false := decide_eq_false (by omega)
            have g95 : (c == 95) = true := by simp only [beq_iff_eq]; omega
            have HR := Lib.hid (show mayT ⟨true, x, s, y, n⟩ = false from by
              have h1 : varL x = false := okV_none (k := k + 1) (by rw [okV_first hk0 HXK.out]; unfold ofB; rw [HC.out]; simp only [bgI, wrdI, sml, figI, Bool.or_eq_false_iff, Bool.and_eq_false_iff, decide_eq_false_iff_not, beq_eq_false_iff_ne, ne_eq]; omega)
              unfold mayT
              rw [if_pos rfl, h1]
              rfl)
            clear hcb hk0
            rw [← hc] at g97 g122 g65 g90 g48 g57 g95
            clear hc hc0
            go_wp2_with fail
            go_ret
            exact ⟨by rw [HR.out]; rfl, HB0.out⟩
          · have g97 : decide ((97 : Int) ≤ c) = false := decide_eq_false (by omega)
            have g122 : decide (c ≤ 122) = true := decide_eq_true (by omega)
            have g65 : decide ((65 : Int) ≤ c) = true := decide_eq_true (by omega)
            have g90 : decide (c ≤ 90) = false := decide_eq_false (by omega)
            have g48 : decide ((48 : Int) ≤ c) = true := decide_eq_true (by omega)
            have g57 : decide (c ≤ 57) = false := decide_eq_false (by omega)
            have g95 : (c == 95) = false := by rw [beq_eq_false_iff_ne]; omega
            have HR := Lib.hid (show mayT ⟨true, x, s, y, n⟩ = false from by
              have h1 : varL x = false := okV_none (k := k + 1) (by rw [okV_first hk0 HXK.out]; unfold ofB; rw [HC.out]; simp only [bgI, wrdI, sml, figI, Bool.or_eq_false_iff, Bool.and_eq_false_iff, decide_eq_false_iff_not, beq_eq_false_iff_ne, ne_eq]; omega)
              unfold mayT
              rw [if_pos rfl, h1]
              rfl)
            clear hcb hk0
            rw [← hc] at g97 g122 g65 g90 g48 g57 g95
            clear hc hc0
            go_wp2_with fail
            go_ret
            exact ⟨by rw [HR.out]; rfl, HB0.out⟩
          · have g97 : decide ((97 : Int) ≤ c) = true := decide_eq_true (by omega)
            have g122 : decide (c ≤ 122) = true := decide_eq_true (by omega)
            have g65 : decide ((65 : Int) ≤ c) = true := decide_eq_true (by omega)
            have g90 : decide (c ≤ 90) = false := decide_eq_false (by omega)
            have g48 : decide ((48 : Int) ≤ c) = true := decide_eq_true (by omega)
            have g57 : decide (c ≤ 57) = false := decide_eq_false (by omega)
            have g95 : (c == 95) = false := by rw [beq_eq_false_iff_ne]; omega
            have HR := Lib.hid (show mayT ⟨true, x, s, y, n⟩ = false from by
              have h1 : varL x = false := okV_none (k := k + 1) (by rw [okV_first hk0 HXK.out]; unfold ofB; rw [HC.out]; simp only [bgI, wrdI, sml, figI, Bool.or_eq_false_iff, Bool.and_eq_false_iff, decide_eq_false_iff_not, beq_eq_false_iff_ne, ne_eq]; omega)
              unfold mayT
              rw [if_pos rfl, h1]
              rfl)
            clear hcb hk0
            rw [← hc] at g97 g122 g65 g90 g48 g57 g95
            clear hc hc0
            go_wp2_with fail
            go_ret
            exact ⟨by rw [HR.out]; rfl, HB0.out⟩
          · have g97 : decide ((97 : Int) ≤ c) = true := decide_eq_true (by omega)
            have g122 : decide (c ≤ 122) = false := decide_eq_false (by omega)
            have g65 : decide ((65 : Int) ≤ c) = true := decide_eq_true (by omega)
            have g90 : decide (c ≤ 90) = false := decide_eq_false (by omega)
            have g48 : decide ((48 : Int) ≤ c) = true := decide_eq_true (by omega)
            have g57 : decide (c ≤ 57) = false := decide_eq_false (by omega)
            have g95 : (c == 95) = false := by rw [beq_eq_false_iff_ne]; omega
            have HR := Lib.hid (show mayT ⟨true, x, s, y, n⟩ = false from by
              have h1 : varL x = false := okV_none (k := k + 1) (by rw [okV_first hk0 HXK.out]; unfold ofB; rw [HC.out]; simp only [bgI, wrdI, sml, figI, Bool.or_eq_false_iff, Bool.and_eq_false_iff, decide_eq_false_iff_not, beq_eq_false_iff_ne, ne_eq]; omega)
              unfold mayT
              rw [if_pos rfl, h1]
              rfl)
            clear hcb hk0
            rw [← hc] at g97 g122 g65 g90 g48 g57 g95
            clear hc hc0
            go_wp2_with fail
            go_ret
            exact ⟨by rw [HR.out]; rfl, HB0.out⟩
        · have hk0d : (((k : Nat) : Int) == 0) = false := by rw [beq_eq_false_iff_ne]; omega
          rcases hcb with hcb | hcb | hcb | hcb | hcb | hcb | hcb | hcb | hcb
          · have g97 : decide ((97 : Int) ≤ c) = false := decide_eq_false (by omega)
            have g122 : decide (c ≤ 122) = true := decide_eq_true (by omega)
            have g65 : decide ((65 : Int) ≤ c) = false := decide_eq_false (by omega)
            have g90 : decide (c ≤ 90) = true := decide_eq_true (by omega)
            have g48 : decide ((48 : Int) ≤ c) = false := decide_eq_false (by omega)
            have g57 : decide (c ≤ 57) = true := decide_eq_true (by omega)
            have g95 : (c == 95) = false := by rw [beq_eq_false_iff_ne]; omega
            have HR := Lib.hid (show mayT ⟨true, x, s, y, n⟩ = false from by
              have h1 : varL x = false := okV_none (k := k + 1) (by rw [okV_next hk0 HXK.out HO.out]; unfold ofB; rw [HC.out]; simp only [bgI, wrdI, sml, figI, Bool.or_eq_false_iff, Bool.and_eq_false_iff, decide_eq_false_iff_not, beq_eq_false_iff_ne, ne_eq]; omega)
              unfold mayT
              rw [if_pos rfl, h1]
              rfl)
            clear hcb hk0
            rw [← hc] at g97 g122 g65 g90 g48 g57 g95
            clear hc hc0
            go_wp2_with fail
            go_ret
            exact ⟨by rw [HR.out]; rfl, HB0.out⟩
          · have g97 : decide ((97 : Int) ≤ c) = false := decide_eq_false (by omega)
            have g122 : decide (c ≤ 122) = true := decide_eq_true (by omega)
            have g65 : decide ((65 : Int) ≤ c) = false := decide_eq_false (by omega)
            have g90 : decide (c ≤ 90) = true := decide_eq_true (by omega)
            have g48 : decide ((48 : Int) ≤ c) = true := decide_eq_true (by omega)
            have g57 : decide (c ≤ 57) = true := decide_eq_true (by omega)
            have g95 : (c == 95) = false := by rw [beq_eq_false_iff_ne]; omega
            have HW := Lib.hid (show okV (x.take (k + 1)) = true from by rw [okV_next hk0 HXK.out HO.out]; unfold ofB; rw [HC.out]; simp only [bgI, wrdI, sml, figI, Bool.or_eq_true, Bool.and_eq_true, decide_eq_true_eq, beq_iff_eq]; omega)
            clear hcb hk0
            rw [← hc] at g97 g122 g65 g90 g48 g57 g95
            clear hc hc0
            go_wp2_with fail
            go_roundw
            case rel => exact ⟨k + 1, by omega, by simp, HW.out, by first | rfl | trivial⟩
            case measure => simp [intOf]; omega
          · have g97 : decide ((97 : Int) ≤ c) = false := decide_eq_false (by omega)
            have g122 : decide (c ≤ 122) = true := decide_eq_true (by omega)
            have g65 : decide ((65 : Int) ≤ c) = false := decide_eq_false (by omega)
            have g90 : decide (c ≤ 90) = true := decide_eq_true (by omega)
            have g48 : decide ((48 : Int) ≤ c) = true := decide_eq_true (by omega)
            have g57 : decide (c ≤ 57) = false := decide_eq_false (by omega)
            have g95 : (c == 95) = false := by rw [beq_eq_false_iff_ne]; omega
            have HR := Lib.hid (show mayT ⟨true, x, s, y, n⟩ = false from by
              have h1 : varL x = false := okV_none (k := k + 1) (by rw [okV_next hk0 HXK.out HO.out]; unfold ofB; rw [HC.out]; simp only [bgI, wrdI, sml, figI, Bool.or_eq_false_iff, Bool.and_eq_false_iff, decide_eq_false_iff_not, beq_eq_false_iff_ne, ne_eq]; omega)
              unfold mayT
              rw [if_pos rfl, h1]
              rfl)
            clear hcb hk0
            rw [← hc] at g97 g122 g65 g90 g48 g57 g95
            clear hc hc0
            go_wp2_with fail
            go_ret
            exact ⟨by rw [HR.out]; rfl, HB0.out⟩
          · have g97 : decide ((97 : Int) ≤ c) = false := decide_eq_false (by omega)
            have g122 : decide (c ≤ 122) = true := decide_eq_true (by omega)
            have g65 : decide ((65 : Int) ≤ c) = true := decide_eq_true (by omega)
            have g90 : decide (c ≤ 90) = true := decide_eq_true (by omega)
            have g48 : decide ((48 : Int) ≤ c) = true := decide_eq_true (by omega)
            have g57 : decide (c ≤ 57) = false := decide_eq_false (by omega)
            have g95 : (c == 95) = false := by rw [beq_eq_false_iff_ne]; omega
            have HW := Lib.hid (show okV (x.take (k + 1)) = true from by rw [okV_next hk0 HXK.out HO.out]; unfold ofB; rw [HC.out]; simp only [bgI, wrdI, sml, figI, Bool.or_eq_true, Bool.and_eq_true, decide_eq_true_eq, beq_iff_eq]; omega)
            clear hcb hk0
            rw [← hc] at g97 g122 g65 g90 g48 g57 g95
            clear hc hc0
            go_wp2_with fail
            go_roundw
            case rel => exact ⟨k + 1, by omega, by simp, HW.out, by first | rfl | trivial⟩
            case measure => simp [intOf]; omega
          · have g97 : decide ((97 : Int) ≤ c) = false := decide_eq_false (by omega)
            have g122 : decide (c ≤ 122) = true := decide_eq_true (by omega)
            have g65 : decide ((65 : Int) ≤ c) = true := decide_eq_true (by omega)
            have g90 : decide (c ≤ 90) = false := decide_eq_false (by omega)
            have g48 : decide ((48 : Int) ≤ c) = true := decide_eq_true (by omega)
            have g57 : decide (c ≤ 57) = false := decide_eq_false (by omega)
            have g95 : (c == 95) = false := by rw [beq_eq_false_iff_ne]; omega
            have HR := Lib.hid (show mayT ⟨true, x, s, y, n⟩ = false from by
              have h1 : varL x = false := okV_none (k := k + 1) (by rw [okV_next hk0 HXK.out HO.out]; unfold ofB; rw [HC.out]; simp only [bgI, wrdI, sml, figI, Bool.or_eq_false_iff, Bool.and_eq_false_iff, decide_eq_false_iff_not, beq_eq_false_iff_ne, ne_eq]; omega)
              unfold mayT
              rw [if_pos rfl, h1]
              rfl)
            clear hcb hk0
            rw [← hc] at g97 g122 g65 g90 g48 g57 g95
            clear hc hc0
            go_wp2_with fail
            go_ret
            exact ⟨by rw [HR.out]; rfl, HB0.out⟩
          · have g97 : decide ((97 : Int) ≤ c) = false := decide_eq_false (by omega)
            have g122 : decide (c ≤ 122) = true := decide_eq_true (by omega)
            have g65 : decide ((65 : Int) ≤ c) = true := decide_eq_true (by omega)
            have g90 : decide (c ≤ 90) = false := decide_eq_false (by omega)
            have g48 : decide ((48 : Int) ≤ c) = true := decide_eq_true (by omega)
            have g57 : decide (c ≤ 57) = false := decide_eq_false (by omega)
            have g95 : (c == 95) = true := by simp only [beq_iff_eq]; omega
            have HW := Lib.hid (show okV (x.take (k + 1)) = true from by rw [okV_next hk0 HXK.out HO.out]; unfold ofB; rw [HC.out]; simp only [bgI, wrdI, sml, figI, Bool.or_eq_true, Bool.and_eq_true, decide_eq_true_eq, beq_iff_eq]; omega)
            clear hcb hk0
            rw [← hc] at g97 g122 g65 g90 g48 g57 g95
            clear hc hc0
            go_wp2_with fail
            go_roundw
            case rel => exact ⟨k + 1, by omega, by simp, HW.out, by first | rfl | trivial⟩
            case measure => simp [intOf]; omega
          · have g97 : decide ((97 : Int) ≤ c) = false := decide_eq_false (by omega)
            have g122 : decide (c ≤ 122) = true := decide_eq_true (by omega)
            have g65 : decide ((65 : Int) ≤ c) = true := decide_eq_true (by omega)
            have g90 : decide (c ≤ 90) = false := decide_eq_false (by omega)
            have g48 : decide ((48 : Int) ≤ c) = true := decide_eq_true (by omega)
            have g57 : decide (c ≤ 57) = false := decide_eq_false (by omega)
            have g95 : (c == 95) = false := by rw [beq_eq_false_iff_ne]; omega
            have HR := Lib.hid (show mayT ⟨true, x, s, y, n⟩ = false from by
              have h1 : varL x = false := okV_none (k := k + 1) (by rw [okV_next hk0 HXK.out HO.out]; unfold ofB; rw [HC.out]; simp only [bgI, wrdI, sml, figI, Bool.or_eq_false_iff, Bool.and_eq_false_iff, decide_eq_false_iff_not, beq_eq_false_iff_ne, ne_eq]; omega)
              unfold mayT
              rw [if_pos rfl, h1]
              rfl)
            clear hcb hk0
            rw [← hc] at g97 g122 g65 g90 g48 g57 g95
            clear hc hc0
            go_wp2_with fail
            go_ret
            exact ⟨by rw [HR.out]; rfl, HB0.out⟩
          · have g97 : decide ((97 : Int) ≤ c) = true := decide_eq_true (by omega)
            have g122 : decide (c ≤ 122) = true := decide_eq_true (by omega)
            have g65 : decide ((65 : Int) ≤ c) = true := decide_eq_true (by omega)
            have g90 : decide (c ≤ 90) = false := decide_eq_false (by omega)
            have g48 : decide ((48 : Int) ≤ c) = true := decide_eq_true (by omega)
            have g57 : decide (c ≤ 57) = false := decide_eq_false (by omega)
            have g95 : (c == 95) = false := by rw [beq_eq_false_iff_ne]; omega
            have HW := Lib.hid (show okV (x.take (k + 1)) = true from by rw [okV_next hk0 HXK.out HO.out]; unfold ofB; rw [HC.out]; simp only [bgI, wrdI, sml, figI, Bool.or_eq_true, Bool.and_eq_true, decide_eq_true_eq, beq_iff_eq]; omega)
            clear hcb hk0
            rw [← hc] at g97 g122 g65 g90 g48 g57 g95
            clear hc hc0
            go_wp2_with fail
            go_roundw
            case rel => exact ⟨k + 1, by omega, by simp, HW.out, by first | rfl | trivial⟩
            case measure => simp [intOf]; omega
          · have g97 : decide ((97 : Int) ≤ c) = true := decide_eq_true (by omega)
            have g122 : decide (c ≤ 122) = false := decide_eq_false (by omega)
            have g65 : decide ((65 : Int) ≤ c) = true := decide_eq_true (by omega)
            have g90 : decide (c ≤ 90) = false := decide_eq_false (by omega)
            have g48 : decide ((48 : Int) ≤ c) = true := decide_eq_true (by omega)
            have g57 : decide (c ≤ 57) = false := decide_eq_false (by omega)
            have g95 : (c == 95) = false := by rw [beq_eq_false_iff_ne]; omega
            have HR := Lib.hid (show mayT ⟨true, x, s, y, n⟩ = false from by
              have h1 : varL x = false := okV_none (k := k + 1) (by rw [okV_next hk0 HXK.out HO.out]; unfold ofB; rw [HC.out]; simp only [bgI, wrdI, sml, figI, Bool.or_eq_false_iff, Bool.and_eq_false_iff, decide_eq_false_iff_not, beq_eq_false_iff_ne, ne_eq]; omega)
              unfold mayT
              rw [if_pos rfl, h1]
              rfl)
            clear hcb hk0
            rw [← hc] at g97 g122 g65 g90 g48 g57 g95
            clear hc hc0
            go_wp2_with fail
            go_ret
            exact ⟨by rw [HR.out]; rfl, HB0.out⟩
      · obtain rfl : k = z.size := by omega
        have hd : decide ((z.size : Int) < (z.size : Int)) = false := decide_eq_false (by omega)
        have hall : x.take z.size = x := List.take_of_length_le (by rw [← HZS.out]; omega)
        have HE := Lib.hid (show mayT ⟨true, x, s, y, n⟩ = ((decide (1 ≤ z.size) && decide (z.size ≤ 32)) && !s && y.isEmpty && n == 0) from by
          have h1 := HO.out
          rw [hall] at h1
          unfold mayT
          rw [if_pos rfl, okV_var h1, HZS.out])
        have v0 := V0.out
        have v1 := V1.out
        have v2 := V2.out
        have hdz : decide ((z.size : Int) ≤ 32) = decide (z.size ≤ 32) := by simp only [decide_eq_decide]; omega
        have hdy : decide ((1 : Int) ≤ (z.size : Int)) = decide (1 ≤ z.size) := by simp only [decide_eq_decide]; omega
        have HDZ := Lib.hid hdz
        have HDY := Lib.hid hdy
        clear hall hlt hk
        by_cases q1 : 1 ≤ z.size
        · have q1d : decide ((1 : Int) ≤ (z.size : Int)) = true := decide_eq_true (by omega)
          by_cases q2 : z.size ≤ 32
          · have q2d : decide ((z.size : Int) ≤ 32) = true := decide_eq_true (by omega)
            have HE2 := Lib.hid (show mayT ⟨true, x, s, y, n⟩ = (!s && y.isEmpty && n == 0) from by rw [HE.out, decide_eq_true q1, decide_eq_true q2]; rfl)
            have q3d : decide (1 ≤ z.size) = true := decide_eq_true q1
            have q4d : decide (z.size ≤ 32) = true := decide_eq_true q2
            have q5d : decide (0 < z.size) = true := decide_eq_true q1
            clear q1 q2 hdz hdy HE
            cases s
            all_goals
              rcases emp y with ⟨hye, hy1, hy2, hy3⟩ | ⟨hye, hy1, hy2, hy3⟩
              all_goals
                rcases (show (n == 0) = true ∨ (n == 0) = false by cases (n == 0) <;> simp) with hn0 | hn0
                all_goals
                  have HYE := Lib.hid hye
                  have HN0 := Lib.hid hn0
                  clear hye
                  go_wp2_with fail
                  go_ret
                  refine ⟨?_, HB0.out⟩
                  rw [HE2.out, HYE.out, HN0.out]
                  rfl
          · have q2d : decide ((z.size : Int) ≤ 32) = false := decide_eq_false (by omega)
            have HE2 := Lib.hid (show mayT ⟨true, x, s, y, n⟩ = false from by rw [HE.out, decide_eq_false q2]; simp)
            have q3d : decide (1 ≤ z.size) = true := decide_eq_true q1
            have q4d : decide (z.size ≤ 32) = false := decide_eq_false q2
            have q5d : decide (0 < z.size) = true := decide_eq_true q1
            clear q1 q2 hdz hdy
            go_wp2_with fail
            go_ret
            exact ⟨by rw [HE2.out]; rfl, HB0.out⟩
        · have q1d : decide ((1 : Int) ≤ (z.size : Int)) = false := decide_eq_false (by omega)
          have HE2 := Lib.hid (show mayT ⟨true, x, s, y, n⟩ = false from by rw [HE.out, decide_eq_false q1]; simp)
          have q3d : decide (1 ≤ z.size) = false := decide_eq_false q1
          have q5d : decide (0 < z.size) = false := decide_eq_false q1
          clear q1 hdz hdy
          go_wp2_with fail
          go_ret
          exact ⟨by rw [HE2.out]; rfl, HB0.out⟩
end Go.Proofs.YtminbdcabacfbaaGreatDoor.V

namespace Go.Proofs.YtminbdcabacfbaaGreatDoor.V
set_option linter.unusedVariables false
set_option linter.unusedSimpArgs false
open Go.RowKit

theorem mayA_no {a : AtomL} {t : TermL} (ht : t ∈ a.a) (h : mayT t = false) : mayA a = false := by
  have h1 : a.a.all mayT = false := by
    rw [List.all_eq_false]
    exact ⟨t, ht, by rw [h]; simp⟩
  unfold mayA
  rw [h1]
  simp
theorem all_up {α : Type} (f : α → Bool) {L : List α} {k : Nat} {t : α} (h : L[k]? = some t) (h1 : (L.take k).all f = true) (h2 : f t = true) : (L.take (k + 1)).all f = true := by
  rw [List.take_add_one, List.all_append, h1, h]
  simp [h2]

set_option maxRecDepth 100000 in
set_option maxHeartbeats 8000000 in
theorem rfMayA_calls (A : Option Addr) (n c : Nat) (x : AtomL) (w : World) (hn : n = x.a.length) (hT : TermsRd w A x.a) (hs : AtomSz x) :
    Calls Tryz.prog 50 #[.agg #[.string (bs x.p), .slice A n c]] w fun e w' => e = .returned (.bool (mayA x)) ∧ Below w.heap.size w w' := by
  obtain ⟨p, l⟩ := x
  dsimp only at hn hT ⊢
  have hbl := (Below.refl w.heap.size w).alloc (Nat.le_refl _) (.cells #[.string (bs p), .slice A n c] 25)
  have HB0 := Lib.hid hbl
  have HA := Lib.hid (IsAt.new (v0 := .string (bs p)) (v1 := .slice A n c) w)
  have HT := Lib.hid (hT.below hbl)
  have HN := Lib.hid hn
  have HS := Lib.hid hs.2.2
  have hn2 : n < 1000000000 := by rw [hn]; exact hs.2.1
  have HPL := Lib.hid (fun (W : World) => (show Calls Tryz.prog 49 #[.string (bs p)] W (fun e w' => e = .returned (.bool (plainL p)) ∧ Below W.heap.size W w') from refPlain_calls (bs p) W (by rw [bs_size]; exact hs.1)))
  have HSZ := Lib.hid (show (bs p).size = p.length from bs_size p)
  have hw0g : ∃ w0, w.alloc (.cells #[.string (bs p), .slice A n c] 25) = w0 := ⟨_, rfl⟩
  obtain ⟨z, hz⟩ : ∃ z, bs p = z := ⟨_, rfl⟩
  rw [hz] at hw0g HB0 HA HT HPL HSZ ⊢
  clear hbl hn hT hs hz
  go_enter Tryz.func50, Tryz.ntmps50
  go_wp2_with fail
  obtain ⟨w0, hw0⟩ := hw0g
  rw [hw0] at HB0 HA HT ⊢
  clear hw0
  go_loopw [3] (fun i wr => ∃ k : Nat, k ≤ n ∧ i = .int .i64 (k : Int) ∧ (l.take k).all mayT = true ∧ Below w0.heap.size w0 wr) (fun i _ => n + 1 - (intOf i).toNat)
  case atStart => exact ⟨0, Nat.zero_le _, rfl, rfl, Below.refl _ _⟩
  case round =>
    obtain ⟨k, hk, rfl, hall, hb⟩ := hrel
    have HB := Lib.hid hb
    have HAL := Lib.hid hall
    have a1 := cell_below hb HA.out.c1
    have HA2 := Lib.hid (show IsAt w.heap.size (.string z) (.slice A n c) wr from HA.out.below hb)
    by_cases hlt : k < n
    · have HLT := Lib.hid hlt
      have hd : decide ((k : Int) < (n : Int)) = true := decide_eq_true (by omega)
      obtain ⟨t, hx⟩ : ∃ t, l[k]? = some t := ⟨_, List.getElem?_eq_getElem (by rw [← HN.out]; exact hlt)⟩
      obtain ⟨g, rfl, hc⟩ := HT.out k t hx
      have hc' := hc.below hb
      have HX := Lib.hid hx
      have HC := Lib.hid (fun W => rfMayT_calls t W (HS.out t (List.mem_of_getElem? hx)))
      have p0 := hc'.c0
      have p1 := hc'.c1
      have p2 := hc'.c2
      have p3 := hc'.c3
      have p4 := hc'.c4
      cases hv : mayT t with
      | true =>
        have HV := Lib.hid hv
        clear hb hc hc' hx hall hv
        go_wp2_with (go_at_call 84; ((with_reducible refine (HC.out _).mono ?_); rw [HV.out]; rintro e w2 ⟨rfl, hb2⟩; have HB2 := Lib.hid (HB.out.trans (hb2.mono HB.out.size)); clear hb2))
        go_roundw
        case rel => exact ⟨k + 1, HLT.out, by simp, all_up mayT HX.out HAL.out HV.out, HB2.out⟩
        case measure => simp [intOf]; have := HLT.out; omega
      | false =>
        have HE := Lib.hid (mayA_no (a := ⟨p, l⟩) (List.mem_of_getElem? hx) hv)
        have HV := Lib.hid hv
        clear hb hc hc' hx hall hv
        go_wp2_with (go_at_call 84; ((with_reducible refine (HC.out _).mono ?_); rw [HV.out]; rintro e w2 ⟨rfl, hb2⟩; have HB2 := Lib.hid (HB.out.trans (hb2.mono HB.out.size)); clear hb2))
        go_ret
        exact ⟨by rw [HE.out]; rfl, HB0.out.trans (HB2.out.mono HB0.out.size)⟩
    · obtain rfl : k = n := by omega
      have hd : decide ((k : Int) < (k : Int)) = false := decide_eq_false (by omega)
      have hall2 : l.take k = l := List.take_of_length_le (by rw [← HN.out]; exact Nat.le_refl _)
      rw [hall2] at hall
      have HE := Lib.hid (show mayA ⟨p, l⟩ = (plainL p && decide (z.size ≤ 32) && decide (k ≤ 6)) from by
        unfold mayA nameL
        rw [hall, HSZ.out, HN.out]
        simp)
      have a0 := HA2.out.c0
      clear hb hlt hk hall hall2
      cases hp : plainL p with
      | false =>
        have HP := Lib.hid hp
        clear hp
        go_wp2_with (go_at_call 49; ((with_reducible refine (HPL.out _).mono ?_); rw [HP.out]; rintro e w2 ⟨rfl, hb2⟩; have HB2 := Lib.hid (HB.out.trans (hb2.mono HB.out.size)); clear hb2))
        go_ret
        exact ⟨by rw [HE.out, HP.out]; rfl, HB0.out.trans (HB2.out.mono HB0.out.size)⟩
      | true =>
        have HP := Lib.hid hp
        clear hp
        by_cases h1 : z.size ≤ 32
        · have g1 : decide ((z.size : Int) ≤ 32) = true := decide_eq_true (by omega)
          have g2 : decide (z.size ≤ 32) = true := decide_eq_true h1
          have G2 := Lib.hid g2
          by_cases h2 : k ≤ 6
          · have g3 : decide ((k : Int) ≤ 6) = true := decide_eq_true (by omega)
            have g4 : decide (k ≤ 6) = true := decide_eq_true h2
            have G4 := Lib.hid g4
            clear h1 h2
            go_wp2_with (go_at_call 49; ((with_reducible refine (HPL.out _).mono ?_); rw [HP.out]; rintro e w2 ⟨rfl, hb2⟩; have HB2 := Lib.hid (HB.out.trans (hb2.mono HB.out.size)); have e0 := cell_below hb2 HA2.out.c0; have e1 := cell_below hb2 HA2.out.c1; clear hb2))
            go_ret
            exact ⟨by rw [HE.out, HP.out, G2.out, G4.out]; rfl, HB0.out.trans (HB2.out.mono HB0.out.size)⟩
          · have g3 : decide ((k : Int) ≤ 6) = false := decide_eq_false (by omega)
            have g4 : decide (k ≤ 6) = false := decide_eq_false h2
            have G4 := Lib.hid g4
            clear h1 h2
            go_wp2_with (go_at_call 49; ((with_reducible refine (HPL.out _).mono ?_); rw [HP.out]; rintro e w2 ⟨rfl, hb2⟩; have HB2 := Lib.hid (HB.out.trans (hb2.mono HB.out.size)); have e0 := cell_below hb2 HA2.out.c0; have e1 := cell_below hb2 HA2.out.c1; clear hb2))
            go_ret
            exact ⟨by rw [HE.out, HP.out, G2.out, G4.out]; rfl, HB0.out.trans (HB2.out.mono HB0.out.size)⟩
        · have g1 : decide ((z.size : Int) ≤ 32) = false := decide_eq_false (by omega)
          have g2 : decide (z.size ≤ 32) = false := decide_eq_false h1
          have G2 := Lib.hid g2
          clear h1
          go_wp2_with (go_at_call 49; ((with_reducible refine (HPL.out _).mono ?_); rw [HP.out]; rintro e w2 ⟨rfl, hb2⟩; have HB2 := Lib.hid (HB.out.trans (hb2.mono HB.out.size)); have e0 := cell_below hb2 HA2.out.c0; have e1 := cell_below hb2 HA2.out.c1; clear hb2))
          go_ret
          exact ⟨by rw [HE.out, HP.out, G2.out]; rfl, HB0.out.trans (HB2.out.mono HB0.out.size)⟩
end Go.Proofs.YtminbdcabacfbaaGreatDoor.V

namespace Go.Proofs.YtminbdcabacfbaaGreatDoor.V
set_option linter.unusedVariables false
set_option linter.unusedSimpArgs false
open Go.RowKit

theorem row_lt' {w : World} {k : Nat} {o : Obj} (h : w.heap[k]? = some o) : k < w.heap.size := (Array.getElem?_eq_some_iff.1 h).1
theorem op_ways (o : List UInt8) : opL o = true ∧ (o = [61] ∨ o = [33, 61] ∨ o = [60] ∨ o = [60, 61] ∨ o = [62] ∨ o = [62, 61]) ∨ opL o = false ∧ (o == [61]) = false ∧ (o == [33, 61]) = false ∧ (o == [60]) = false ∧ (o == [60, 61]) = false ∧ (o == [62]) = false ∧ (o == [62, 61]) = false := by
  have h : opL o = (o == [61] || o == [33, 61] || o == [60] || o == [60, 61] || o == [62] || o == [62, 61]) := by
    have := opL_data (bs o)
    rw [bs_list] at this
    rw [this, Bool.beq_comm (a := o) (b := [61]), Bool.beq_comm (a := o) (b := [33, 61]), Bool.beq_comm (a := o) (b := [60]), Bool.beq_comm (a := o) (b := [60, 61]), Bool.beq_comm (a := o) (b := [62]), Bool.beq_comm (a := o) (b := [62, 61])]
  cases h2 : opL o with
  | true =>
    rw [h2] at h
    have h3 := h.symm
    simp only [Bool.or_eq_true, beq_iff_eq] at h3
    exact .inl ⟨rfl, by rcases h3 with ((((h | h) | h) | h) | h) | h <;> simp [h]⟩
  | false =>
    rw [h2] at h
    have h3 := h.symm
    simp only [Bool.or_eq_false_iff] at h3
    exact .inr ⟨rfl, h3.1.1.1.1.1, h3.1.1.1.1.2, h3.1.1.1.2, h3.1.1.2, h3.1.2, h3.2⟩

set_option maxRecDepth 100000 in
set_option maxHeartbeats 16000000 in
theorem rfMayL_calls (kk : Int) (A : Option Addr) (n c : Nat) (x : LitL) (w : World) (hk : kk.toNat = x.k) (hn : n = x.a.a.length) (hT : TermsRd w A x.a.a) (hs : LitSz x) :
    Calls Tryz.prog 51 #[.agg #[.int .i64 kk, .string (bs x.a.p), .slice A n c, .string (bs x.o), .bool x.l.v, .string (bs x.l.x), .bool x.l.s, .string (bs x.l.t), .int .i64 x.l.n, .bool x.r.v, .string (bs x.r.x), .bool x.r.s, .string (bs x.r.t), .int .i64 x.r.n]] w fun e w' => e = .returned (.bool (mayL x)) ∧ Below w.heap.size w w' := by
  obtain ⟨k, ⟨p, la⟩, o, ⟨lv, lx, ls, ly, ln⟩, ⟨rv, rx, rs, ry, rn⟩⟩ := x
  dsimp only at hn hT hk ⊢
  have hbl := ((Below.refl w.heap.size w).alloc (Nat.le_refl _) (.cells #[.int .i64 kk, .string (bs p), .slice A n c, .string (bs o), .bool lv, .string (bs lx), .bool ls, .string (bs ly), .int .i64 ln, .bool rv, .string (bs rx), .bool rs, .string (bs ry), .int .i64 rn] 47)).alloc (by simp) (.cells #[.bool false, .string ⟨#[]⟩, .bool false, .string ⟨#[]⟩, .int .i64 0] 45)
  have hnw := (((Below.refl (w.alloc (.cells #[.int .i64 kk, .string (bs p), .slice A n c, .string (bs o), .bool lv, .string (bs lx), .bool ls, .string (bs ly), .int .i64 ln, .bool rv, .string (bs rx), .bool rs, .string (bs ry), .int .i64 rn] 47)).heap.size _).alloc (Nat.le_refl _) (.cells #[.bool false, .string ⟨#[]⟩, .bool false, .string ⟨#[]⟩, .int .i64 0] 45)).block w.heap.size (by simp)).trans (heap_alloc_new w (.cells #[.int .i64 kk, .string (bs p), .slice A n c, .string (bs o), .bool lv, .string (bs lx), .bool ls, .string (bs ly), .int .i64 ln, .bool rv, .string (bs rx), .bool rs, .string (bs ry), .int .i64 rn] 47))
  have hnz := heap_alloc_new (w.alloc (.cells #[.int .i64 kk, .string (bs p), .slice A n c, .string (bs o), .bool lv, .string (bs lx), .bool ls, .string (bs ly), .int .i64 ln, .bool rv, .string (bs rx), .bool rs, .string (bs ry), .int .i64 rn] 47)) (.cells #[.bool false, .string ⟨#[]⟩, .bool false, .string ⟨#[]⟩, .int .i64 0] 45)
  rw [World.size_alloc] at hnz
  have HB0 := Lib.hid hbl
  have HT0 := Lib.hid (hT.below hbl)
  have HNW := Lib.hid hnw
  have HNZ := Lib.hid hnz
  have d0 := cell_of_row _ _ 0 _ _ _ hnw
  have d1 := cell_of_row _ _ 1 _ _ _ hnw
  have d2 := cell_of_row _ _ 2 _ _ _ hnw
  have d3 := cell_of_row _ _ 3 _ _ _ hnw
  have d4 := cell_of_row _ _ 4 _ _ _ hnw
  have d5 := cell_of_row _ _ 5 _ _ _ hnw
  have d6 := cell_of_row _ _ 6 _ _ _ hnw
  have d7 := cell_of_row _ _ 7 _ _ _ hnw
  have d8 := cell_of_row _ _ 8 _ _ _ hnw
  have d9 := cell_of_row _ _ 9 _ _ _ hnw
  have d10 := cell_of_row _ _ 10 _ _ _ hnw
  have d11 := cell_of_row _ _ 11 _ _ _ hnw
  have d12 := cell_of_row _ _ 12 _ _ _ hnw
  have d13 := cell_of_row _ _ 13 _ _ _ hnw
  have HTL := Lib.hid (fun (W : World) => (show Calls Tryz.prog 84 #[.agg #[.bool lv, .string (bs lx), .bool ls, .string (bs ly), .int .i64 ln]] W (fun e w' => e = .returned (.bool (mayT ⟨lv, lx, ls, ly, ln⟩)) ∧ Below W.heap.size W w') from rfMayT_calls ⟨lv, lx, ls, ly, ln⟩ W hs.2.1))
  have HTR := Lib.hid (fun (W : World) => (show Calls Tryz.prog 84 #[.agg #[.bool rv, .string (bs rx), .bool rs, .string (bs ry), .int .i64 rn]] W (fun e w' => e = .returned (.bool (mayT ⟨rv, rx, rs, ry, rn⟩)) ∧ Below W.heap.size W w') from rfMayT_calls ⟨rv, rx, rs, ry, rn⟩ W hs.2.2))
  have HAT := Lib.hid (fun (W : World) (h : TermsRd W A la) => (show Calls Tryz.prog 50 #[.agg #[.string (bs p), .slice A n c]] W (fun e w' => e = .returned (.bool (mayA ⟨p, la⟩)) ∧ Below W.heap.size W w') from rfMayA_calls A n c ⟨p, la⟩ W hn h hs.1))
  clear hbl hnw hnz hT hs
  by_cases h12 : kk = 1 ∨ kk = 2
  · have hkb : (k == 1 || k == 2) = true := by rcases h12 with rfl | rfl <;> (have := hk; subst this; decide)
    have hk3 : ¬ k = 3 := by rcases h12 with rfl | rfl <;> (have := hk; subst this; decide)
    have hE : mayL ⟨k, ⟨p, la⟩, o, ⟨lv, lx, ls, ly, ln⟩, ⟨rv, rx, rs, ry, rn⟩⟩ = (o.isEmpty && isTerm0 ⟨lv, lx, ls, ly, ln⟩ && isTerm0 ⟨rv, rx, rs, ry, rn⟩ && mayA ⟨p, la⟩) := by
      unfold mayL
      rw [if_neg hk3, hkb, Bool.true_and]
    cases hma : mayA ⟨p, la⟩ with
    | false =>
      have HV := Lib.hid hma
      rw [show mayL ⟨k, ⟨p, la⟩, o, ⟨lv, lx, ls, ly, ln⟩, ⟨rv, rx, rs, ry, rn⟩⟩ = false from by rw [hE, hma]; simp]
      clear hE hkb hk3 hk hn hma
      rcases h12 with rfl | rfl
      all_goals
        go_enter Tryz.func51, Tryz.ntmps51
        go_wp2_with (go_at_call 50; ((with_reducible refine (HAT.out _ HT0.out).mono ?_); rw [HV.out]; rintro e w2 ⟨rfl, hb2⟩; have HD2 := Lib.hid ((hb2.block _ (row_lt' HNW.out)).trans HNW.out); have HZ2 := Lib.hid ((hb2.block _ (row_lt' HNZ.out)).trans HNZ.out); have HB2 := Lib.hid (HB0.out.trans (hb2.mono HB0.out.size));  clear hb2))
        go_ret
        exact ⟨rfl, HB2.out⟩
    | true =>
      have HV := Lib.hid hma
      rw [hma, Bool.and_true] at hE
      by_cases hoe : o = []
      · by_cases hl0 : (⟨lv, lx, ls, ly, ln⟩ : TermL) = term0
        · by_cases hr0 : (⟨rv, rx, rs, ry, rn⟩ : TermL) = term0
          · rw [show mayL ⟨k, ⟨p, la⟩, o, ⟨lv, lx, ls, ly, ln⟩, ⟨rv, rx, rs, ry, rn⟩⟩ = true from by rw [hE, hoe, hl0, hr0]; rfl]
            simp only [term0, TermL.mk.injEq] at hl0 hr0
            obtain ⟨rfl, rfl, rfl, rfl, rfl⟩ := hl0
            obtain ⟨rfl, rfl, rfl, rfl, rfl⟩ := hr0
            subst hoe
            clear hE hkb hk3 hk hn hma
            rcases h12 with rfl | rfl
            all_goals
              go_enter Tryz.func51, Tryz.ntmps51
              go_wp2_with (go_at_call 50; ((with_reducible refine (HAT.out _ HT0.out).mono ?_); rw [HV.out]; rintro e w2 ⟨rfl, hb2⟩; have HD2 := Lib.hid ((hb2.block _ (row_lt' HNW.out)).trans HNW.out); have HZ2 := Lib.hid ((hb2.block _ (row_lt' HNZ.out)).trans HNZ.out); have HB2 := Lib.hid (HB0.out.trans (hb2.mono HB0.out.size)); have e3 := cell_of_row _ _ 3 _ _ _ HD2.out; have e4 := cell_of_row _ _ 4 _ _ _ HD2.out; have e5 := cell_of_row _ _ 5 _ _ _ HD2.out; have e6 := cell_of_row _ _ 6 _ _ _ HD2.out; have e7 := cell_of_row _ _ 7 _ _ _ HD2.out; have e8 := cell_of_row _ _ 8 _ _ _ HD2.out; have e9 := cell_of_row _ _ 9 _ _ _ HD2.out; have e10 := cell_of_row _ _ 10 _ _ _ HD2.out; have e11 := cell_of_row _ _ 11 _ _ _ HD2.out; have e12 := cell_of_row _ _ 12 _ _ _ HD2.out; have e13 := cell_of_row _ _ 13 _ _ _ HD2.out; have y0 := cell_of_row _ _ 0 _ _ _ HZ2.out; have y1 := cell_of_row _ _ 1 _ _ _ HZ2.out; have y2 := cell_of_row _ _ 2 _ _ _ HZ2.out; have y3 := cell_of_row _ _ 3 _ _ _ HZ2.out; have y4 := cell_of_row _ _ 4 _ _ _ HZ2.out; clear hb2))
              all_goals first
                | (go_ret; exact ⟨rfl, HB2.out⟩)
                | (exfalso; simp_all [bs_list]; done)
          · rw [show mayL ⟨k, ⟨p, la⟩, o, ⟨lv, lx, ls, ly, ln⟩, ⟨rv, rx, rs, ry, rn⟩⟩ = false from by
              have : isTerm0 ⟨rv, rx, rs, ry, rn⟩ = false := by
                cases hh : isTerm0 ⟨rv, rx, rs, ry, rn⟩ with
                | false => rfl
                | true => exact absurd (isTerm0_eq hh) hr0
              rw [hE, this]; simp]
            have HR0 := Lib.hid hr0
            simp only [term0, TermL.mk.injEq] at hl0
            obtain ⟨rfl, rfl, rfl, rfl, rfl⟩ := hl0
            subst hoe
            clear hE hkb hk3 hk hn hr0 hma
            rcases h12 with rfl | rfl
            all_goals
              go_enter Tryz.func51, Tryz.ntmps51
              go_wp2_with (go_at_call 50; ((with_reducible refine (HAT.out _ HT0.out).mono ?_); rw [HV.out]; rintro e w2 ⟨rfl, hb2⟩; have HD2 := Lib.hid ((hb2.block _ (row_lt' HNW.out)).trans HNW.out); have HZ2 := Lib.hid ((hb2.block _ (row_lt' HNZ.out)).trans HNZ.out); have HB2 := Lib.hid (HB0.out.trans (hb2.mono HB0.out.size)); have e3 := cell_of_row _ _ 3 _ _ _ HD2.out; have e4 := cell_of_row _ _ 4 _ _ _ HD2.out; have e5 := cell_of_row _ _ 5 _ _ _ HD2.out; have e6 := cell_of_row _ _ 6 _ _ _ HD2.out; have e7 := cell_of_row _ _ 7 _ _ _ HD2.out; have e8 := cell_of_row _ _ 8 _ _ _ HD2.out; have e9 := cell_of_row _ _ 9 _ _ _ HD2.out; have e10 := cell_of_row _ _ 10 _ _ _ HD2.out; have e11 := cell_of_row _ _ 11 _ _ _ HD2.out; have e12 := cell_of_row _ _ 12 _ _ _ HD2.out; have e13 := cell_of_row _ _ 13 _ _ _ HD2.out; have y0 := cell_of_row _ _ 0 _ _ _ HZ2.out; have y1 := cell_of_row _ _ 1 _ _ _ HZ2.out; have y2 := cell_of_row _ _ 2 _ _ _ HZ2.out; have y3 := cell_of_row _ _ 3 _ _ _ HZ2.out; have y4 := cell_of_row _ _ 4 _ _ _ HZ2.out; clear hb2))
              all_goals first
                | (go_ret; exact ⟨rfl, HB2.out⟩)
                | (exfalso; have hr := HR0.out; simp_all [term0, bs_list]; done)
        · rw [show mayL ⟨k, ⟨p, la⟩, o, ⟨lv, lx, ls, ly, ln⟩, ⟨rv, rx, rs, ry, rn⟩⟩ = false from by
            have : isTerm0 ⟨lv, lx, ls, ly, ln⟩ = false := by
              cases hh : isTerm0 ⟨lv, lx, ls, ly, ln⟩ with
              | false => rfl
              | true => exact absurd (isTerm0_eq hh) hl0
            rw [hE, this]; simp]
          have HR0 := Lib.hid hl0
          subst hoe
          clear hE hkb hk3 hk hn hl0 hma
          rcases h12 with rfl | rfl
          all_goals
            go_enter Tryz.func51, Tryz.ntmps51
            go_wp2_with (go_at_call 50; ((with_reducible refine (HAT.out _ HT0.out).mono ?_); rw [HV.out]; rintro e w2 ⟨rfl, hb2⟩; have HD2 := Lib.hid ((hb2.block _ (row_lt' HNW.out)).trans HNW.out); have HZ2 := Lib.hid ((hb2.block _ (row_lt' HNZ.out)).trans HNZ.out); have HB2 := Lib.hid (HB0.out.trans (hb2.mono HB0.out.size)); have e3 := cell_of_row _ _ 3 _ _ _ HD2.out; have e4 := cell_of_row _ _ 4 _ _ _ HD2.out; have e5 := cell_of_row _ _ 5 _ _ _ HD2.out; have e6 := cell_of_row _ _ 6 _ _ _ HD2.out; have e7 := cell_of_row _ _ 7 _ _ _ HD2.out; have e8 := cell_of_row _ _ 8 _ _ _ HD2.out; have e9 := cell_of_row _ _ 9 _ _ _ HD2.out; have e10 := cell_of_row _ _ 10 _ _ _ HD2.out; have e11 := cell_of_row _ _ 11 _ _ _ HD2.out; have e12 := cell_of_row _ _ 12 _ _ _ HD2.out; have e13 := cell_of_row _ _ 13 _ _ _ HD2.out; have y0 := cell_of_row _ _ 0 _ _ _ HZ2.out; have y1 := cell_of_row _ _ 1 _ _ _ HZ2.out; have y2 := cell_of_row _ _ 2 _ _ _ HZ2.out; have y3 := cell_of_row _ _ 3 _ _ _ HZ2.out; have y4 := cell_of_row _ _ 4 _ _ _ HZ2.out; clear hb2))
            all_goals first
              | (go_ret; exact ⟨rfl, HB2.out⟩)
              | (exfalso; have hr := HR0.out; simp_all [term0, bs_list]; done)
      · have hon : ¬ (bs o).toList = [] := by rw [bs_list]; exact hoe
        have hon2 : (bs o).toList.isEmpty = false := by
          rw [bs_list]
          cases o with
          | nil => exact absurd rfl hoe
          | cons a b => rfl
        rw [show mayL ⟨k, ⟨p, la⟩, o, ⟨lv, lx, ls, ly, ln⟩, ⟨rv, rx, rs, ry, rn⟩⟩ = false from by
          have : o.isEmpty = false := by
            cases o with
            | nil => exact absurd rfl hoe
            | cons a b => rfl
          rw [hE, this]; rfl]
        clear hE hkb hk3 hk hn hoe hma
        rcases h12 with rfl | rfl
        all_goals
          go_enter Tryz.func51, Tryz.ntmps51
          go_wp2_with (go_at_call 50; ((with_reducible refine (HAT.out _ HT0.out).mono ?_); rw [HV.out]; rintro e w2 ⟨rfl, hb2⟩; have HD2 := Lib.hid ((hb2.block _ (row_lt' HNW.out)).trans HNW.out); have HZ2 := Lib.hid ((hb2.block _ (row_lt' HNZ.out)).trans HNZ.out); have HB2 := Lib.hid (HB0.out.trans (hb2.mono HB0.out.size)); have e3 := cell_of_row _ _ 3 _ _ _ HD2.out; have e4 := cell_of_row _ _ 4 _ _ _ HD2.out; have e5 := cell_of_row _ _ 5 _ _ _ HD2.out; have e6 := cell_of_row _ _ 6 _ _ _ HD2.out; have e7 := cell_of_row _ _ 7 _ _ _ HD2.out; have e8 := cell_of_row _ _ 8 _ _ _ HD2.out; have e9 := cell_of_row _ _ 9 _ _ _ HD2.out; have e10 := cell_of_row _ _ 10 _ _ _ HD2.out; have e11 := cell_of_row _ _ 11 _ _ _ HD2.out; have e12 := cell_of_row _ _ 12 _ _ _ HD2.out; have e13 := cell_of_row _ _ 13 _ _ _ HD2.out; have y0 := cell_of_row _ _ 0 _ _ _ HZ2.out; have y1 := cell_of_row _ _ 1 _ _ _ HZ2.out; have y2 := cell_of_row _ _ 2 _ _ _ HZ2.out; have y3 := cell_of_row _ _ 3 _ _ _ HZ2.out; have y4 := cell_of_row _ _ 4 _ _ _ HZ2.out; clear hb2))
          go_ret
          exact ⟨rfl, HB2.out⟩
  · have hn1 : (kk == 1) = false := beq_eq_false_iff_ne.2 fun e => h12 (.inl e)
    have hn2 : (kk == 2) = false := beq_eq_false_iff_ne.2 fun e => h12 (.inr e)
    obtain ⟨z, hz⟩ : ∃ z, bs o = z := ⟨_, rfl⟩
    have hzo : z.toList = o := by rw [← hz, bs_list]
    by_cases h3 : kk = 3
    · subst h3
      have hk3 : k = 3 := hk.symm
      have hE : mayL ⟨k, ⟨p, la⟩, o, ⟨lv, lx, ls, ly, ln⟩, ⟨rv, rx, rs, ry, rn⟩⟩ = (opL o && mayT ⟨lv, lx, ls, ly, ln⟩ && mayT ⟨rv, rx, rs, ry, rn⟩ && (bs p).toList.isEmpty && ((n : Int) == 0)) := by
        unfold mayL
        rw [if_pos hk3, bs_list, show ((n : Int) == 0) = la.isEmpty from by
          rw [hn]
          cases la with
          | nil => rfl
          | cons a b => rfl]
      rw [hE]
      rcases op_ways o with ⟨ho, hw⟩ | ⟨ho, b1, b2, b3, b4, b5, b6⟩
      · rw [ho, Bool.true_and]
        have HE2 := Lib.hid hzo
        cases hv2 : mayT ⟨lv, lx, ls, ly, ln⟩ with
        | false =>
          have HV2 := Lib.hid hv2
          simp only [Bool.false_and]
          rw [hz] at *
          clear hE ho hk3 hv2 h12 hk hn hn1 hn2
          rcases hw with rfl | rfl | rfl | rfl | rfl | rfl
          all_goals
            go_enter Tryz.func51, Tryz.ntmps51
            go_wp2_with (go_at_call 84; ((with_reducible refine (HTL.out _).mono ?_); rw [HV2.out]; rintro e w3 ⟨rfl, hb3⟩; have HD3 := Lib.hid ((hb3.block _ (row_lt' HNW.out)).trans HNW.out); have HB3 := Lib.hid (HB0.out.trans (hb3.mono HB0.out.size)); have f9 := cell_of_row _ _ 9 _ _ _ HD3.out; have f10 := cell_of_row _ _ 10 _ _ _ HD3.out; have f11 := cell_of_row _ _ 11 _ _ _ HD3.out; have f12 := cell_of_row _ _ 12 _ _ _ HD3.out; have f13 := cell_of_row _ _ 13 _ _ _ HD3.out; clear hb3))
            go_ret
            exact ⟨rfl, HB3.out⟩
        | true =>
          have HV2 := Lib.hid hv2
          rw [Bool.true_and]
          cases hv3 : mayT ⟨rv, rx, rs, ry, rn⟩ with
          | false =>
            have HV3 := Lib.hid hv3
            simp only [Bool.false_and]
            rw [hz] at *
            clear hE ho hk3 hv2 hv3 h12 hk hn hn1 hn2
            rcases hw with rfl | rfl | rfl | rfl | rfl | rfl
            all_goals
              go_enter Tryz.func51, Tryz.ntmps51
              go_wp2_with (first
                | (go_at_call 84; ((with_reducible refine (HTL.out _).mono ?_); rw [HV2.out]; rintro e w3 ⟨rfl, hb3⟩; have HD3 := Lib.hid ((hb3.block _ (row_lt' HNW.out)).trans HNW.out); have HB3 := Lib.hid (HB0.out.trans (hb3.mono HB0.out.size)); have f9 := cell_of_row _ _ 9 _ _ _ HD3.out; have f10 := cell_of_row _ _ 10 _ _ _ HD3.out; have f11 := cell_of_row _ _ 11 _ _ _ HD3.out; have f12 := cell_of_row _ _ 12 _ _ _ HD3.out; have f13 := cell_of_row _ _ 13 _ _ _ HD3.out; clear hb3))
                | (go_at_call 84; ((with_reducible refine (HTR.out w3).mono ?_); rw [HV3.out]; rintro e w4 ⟨rfl, hb4⟩; have HD4 := Lib.hid ((hb4.block _ (row_lt' HD3.out)).trans HD3.out); have HB4 := Lib.hid (HB3.out.trans (hb4.mono HB3.out.size)); have g1 := cell_of_row _ _ 1 _ _ _ HD4.out; have g2 := cell_of_row _ _ 2 _ _ _ HD4.out; clear hb4)))
              go_ret
              exact ⟨rfl, HB4.out⟩
          | true =>
            have HV3 := Lib.hid hv3
            rw [Bool.true_and]
            rw [hz] at *
            clear hE ho hk3 hv2 hv3 h12 hk hn hn1 hn2
            rcases hw with rfl | rfl | rfl | rfl | rfl | rfl
            all_goals
              go_enter Tryz.func51, Tryz.ntmps51
              go_wp2_with (first
                | (go_at_call 84; ((with_reducible refine (HTL.out _).mono ?_); rw [HV2.out]; rintro e w3 ⟨rfl, hb3⟩; have HD3 := Lib.hid ((hb3.block _ (row_lt' HNW.out)).trans HNW.out); have HB3 := Lib.hid (HB0.out.trans (hb3.mono HB0.out.size)); have f9 := cell_of_row _ _ 9 _ _ _ HD3.out; have f10 := cell_of_row _ _ 10 _ _ _ HD3.out; have f11 := cell_of_row _ _ 11 _ _ _ HD3.out; have f12 := cell_of_row _ _ 12 _ _ _ HD3.out; have f13 := cell_of_row _ _ 13 _ _ _ HD3.out; clear hb3))
                | (go_at_call 84; ((with_reducible refine (HTR.out w3).mono ?_); rw [HV3.out]; rintro e w4 ⟨rfl, hb4⟩; have HD4 := Lib.hid ((hb4.block _ (row_lt' HD3.out)).trans HD3.out); have HB4 := Lib.hid (HB3.out.trans (hb4.mono HB3.out.size)); have g1 := cell_of_row _ _ 1 _ _ _ HD4.out; have g2 := cell_of_row _ _ 2 _ _ _ HD4.out; clear hb4)))
              all_goals
                go_ret
                refine ⟨?_, HB4.out⟩
                first | rfl | (simp_all; done)
      · rw [ho]
        simp only [Bool.false_and]
        rw [← hzo] at b1 b2 b3 b4 b5 b6
        rw [hz] at *
        clear hE ho hk3 h12 hk hn hn1 hn2 hzo
        go_enter Tryz.func51, Tryz.ntmps51
        go_wp2_with fail
        go_ret
        exact ⟨rfl, HB0.out⟩
    · have hn3 : (kk == 3) = false := beq_eq_false_iff_ne.2 h3
      rw [show mayL ⟨k, ⟨p, la⟩, o, ⟨lv, lx, ls, ly, ln⟩, ⟨rv, rx, rs, ry, rn⟩⟩ = false from by
        have hk3 : ¬ k = 3 := by omega
        have hkb : (k == 1 || k == 2) = false := by
          rw [Bool.or_eq_false_iff, beq_eq_false_iff_ne, beq_eq_false_iff_ne]
          exact ⟨fun e => h12 (.inl (by omega)), fun e => h12 (.inr (by omega))⟩
        unfold mayL
        rw [if_neg hk3, hkb]
        rfl]
      clear h12 hk hn h3 hz hzo
      go_enter Tryz.func51, Tryz.ntmps51
      go_wp2_with fail
      all_goals
        go_ret
        exact ⟨rfl, HB0.out⟩
end Go.Proofs.YtminbdcabacfbaaGreatDoor.V
