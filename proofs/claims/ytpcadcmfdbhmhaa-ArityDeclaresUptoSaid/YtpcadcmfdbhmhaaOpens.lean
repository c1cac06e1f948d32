/- What came in, read as data, is so many cells of a known kind: for a law's row. Generic: for any program. No condition. -/
import Derived.Test.YtpcadcmfdbhmhaaWWords
import Derived.Deep.Slices
import Derived.ProofKit
namespace Go.Proofs.Ytpcadcmfdbhmhaa.Opens
open Go.RowKit Go.WideShapes Go.Proofs.YtpcadcmfdbhmhaaW.PrintWords

section
variable {H : Type} {enc : TypeId × Value → H} {P : Program}

/-- Whatever is read at type t is of kind d; ψ: how its Lean value stands to the datum. -/
def Opens (enc : TypeId × Value → H) (P : Program) {α : Type} (t : TypeId) (d : Kd α) (ψ : α → DataW H → Prop) : Prop :=
  ∀ (w : World) (base : Nat) (sp : Nat → Bool) (held : Bool) (fuel : Nat) (cs : List Value) (y : DataW H × List MemPlace), DataW.trod enc P w base sp held fuel t cs = some y → ∃ a, d.K w a cs ∧ ψ a y.1

theorem Opens.imp {α : Type} {t : TypeId} {d : Kd α} {ψ ψ' : α → DataW H → Prop} (h : Opens enc P t d ψ) (hi : ∀ a y, ψ a y → ψ' a y) : Opens enc P t d ψ' := by
  intro w base sp held fuel cs y hy
  obtain ⟨a, h1, h2⟩ := h w base sp held fuel cs y hy
  exact ⟨a, h1, hi _ _ h2⟩

theorem opens_int {t : TypeId} {k : IntKind} (ht : P.underlying t = some (.int k)) : Opens enc P t (Kd.int k) (fun n y => y = .lit (.int k n) ∧ (Lit.int k n).wf = true) := by
  intro w base sp held fuel cs y hy
  obtain ⟨n, rfl, rfl, hw⟩ := DataW.trod_int ht hy
  exact ⟨n, rfl, rfl, hw⟩
theorem opens_bool {t : TypeId} (ht : P.underlying t = some .bool) : Opens enc P t Kd.bool (fun b y => y = .lit (.bool b)) := by
  intro w base sp held fuel cs y hy
  obtain ⟨b, rfl, rfl⟩ := DataW.trod_bool ht hy
  exact ⟨b, rfl, rfl⟩
theorem opens_string {t : TypeId} (ht : P.underlying t = some .string) : Opens enc P t Kd.string (fun s y => y = .lit (.string s.data.toList) ∧ s.size ≤ maxLen) := by
  intro w base sp held fuel cs y hy
  obtain ⟨s, rfl, rfl, hs⟩ := DataW.trod_string ht hy
  exact ⟨s, rfl, rfl, hs⟩

theorem list_of {α : Type} {Q : Nat → α → Prop} : ∀ n : Nat, (∀ i, i < n → ∃ a, Q i a) → ∃ xs : List α, xs.length = n ∧ ∀ i a, xs[i]? = some a → Q i a
  | 0, _ => ⟨[], rfl, fun i a h => by simp at h⟩
  | n + 1, h => by
    obtain ⟨xs, hl, hx⟩ := list_of n (fun i hi => h i (by omega))
    obtain ⟨a, ha⟩ := h n (by omega)
    refine ⟨xs ++ [a], by simp [hl], fun i b hb => ?_⟩
    rcases Nat.lt_or_ge i n with hi | hi
    · rw [List.getElem?_append_left (by omega)] at hb
      exact hx i b hb
    · have hi' : i = n := by
        have := (List.getElem?_eq_some_iff.1 hb).1
        simp [hl] at this
        omega
      subst hi'
      rw [← hl] at hb
      have hb' : a = b := by simpa using hb
      subst hb'
      exact ha

/-- How a slice's list stands to its datum. -/
def SliceRel {α : Type} (ψ : α → DataW H → Prop) (xs : List α) (y : DataW H) : Prop :=
  (y = .nil ∧ xs = []) ∨ ∃ es sp, y = .slice es sp ∧ xs.length = es.length ∧ ∀ (i : Nat) (a : α) (e : DataW H), xs[i]? = some a → es[i]? = some e → ψ a e

theorem opens_slice {α : Type} {t e : TypeId} {d : Kd α} {ψ : α → DataW H → Prop} (ht : P.underlying t = some (.slice e)) (hd : Opens enc P e d ψ) (hsz : P.cellsOf e = d.sz) : Opens enc P t (Kd.slice e d) (SliceRel ψ) := by
  intro w base sp held fuel cs y hy
  rcases Go.Deep.open_slice ht hy with ⟨rfl, rfl⟩ | ⟨a, len, cap, m, n, D, Pl, rfl, hb, hl, hm, hmm, rfl, hx⟩
  · exact ⟨[], ⟨none, 0, rfl, Nat.le_refl _, Kd.C_nil d w⟩, .inl ⟨rfl, rfl⟩⟩
  · have hlm : len ≤ m := by
      rw [hmm]
      split <;> omega
    obtain ⟨xs, hxl, hxs⟩ := list_of (Q := fun i a' => (∃ cs', w.cells? base (a.add (i * P.cellsOf e)) (P.cellsOf e) = some cs' ∧ d.K w a' cs') ∧ ψ a' (D i)) len (fun i hi => by
      obtain ⟨cs', h1, h2⟩ := hx i (by omega)
      obtain ⟨a', h3, h4⟩ := hd w base sp held n cs' _ h2
      exact ⟨a', ⟨cs', h1, h3⟩, h4⟩)
    have hml : (maxLen : Nat) = 9223372036854775807 := rfl
    refine ⟨xs, ⟨some a, cap, by rw [hxl], by omega, rfl, by omega, fun hpos => ⟨a, rfl, fun j p hp => ?_⟩⟩, .inr ⟨_, _, rfl, by simp [hxl], fun i x' e' hi he => ?_⟩⟩
    · obtain ⟨⟨cs', h1, h2⟩, _⟩ := hxs j p hp
      refine ⟨cs', d.K_len h2, h2, fun i u hu => ?_⟩
      obtain ⟨g1, g2, g3⟩ := World.cells?_some h1
      have hiu : i < P.cellsOf e := by
        have := (List.getElem?_eq_some_iff.1 hu).1
        omega
      have := g3 i hiu
      rw [hu, hsz, Addr.add_add] at this
      exact this
    · have hi' : i < len := by
        have := (List.getElem?_eq_some_iff.1 hi).1
        omega
      have he' : D i = e' := by simpa [hi'] using he
      subst he'
      exact (hxs i x' hi).2

/-- Fields in line, from offset off on. -/
def OpensF (enc : TypeId × Value → H) (P : Program) {α : Type} (fs : List Field) (off : Nat) (d : Kd α) (ψ : α → List (DataW H) → Prop) : Prop :=
  ∀ (w : World) (base : Nat) (sp : Nat → Bool) (held : Bool) (n : Nat) (cs : List Value) (xs : List (DataW H × List MemPlace)), xs.length = fs.length →
    (∀ (i : Nat) (f : Field), fs[i]? = some f → DataW.trod enc P w base sp held n f.type ((cs.drop f.offset).take (P.cellsOf f.type)) = xs[i]?) → ∃ a, d.K w a ((cs.drop off).take d.sz) ∧ ψ a (xs.map (·.1))

theorem opensF_one {α : Type} {f : Field} {off : Nat} {d : Kd α} {ψ : α → DataW H → Prop} (ho : f.offset = off) (hd : Opens enc P f.type d ψ) (hsz : P.cellsOf f.type = d.sz) : OpensF enc P [f] off d (fun a ys => ∃ y, ys = [y] ∧ ψ a y) := by
  intro w base sp held n cs xs hl hx
  match xs, hl with
  | [x], _ =>
    have h0 := hx 0 f rfl
    obtain ⟨a, h1, h2⟩ := hd w base sp held n _ x h0
    rw [ho, hsz] at h1
    exact ⟨a, h1, _, rfl, h2⟩

theorem opensF_cons {α β : Type} {f : Field} {fs : List Field} {off off' : Nat} {d : Kd α} {d' : Kd β} {ψ : α → DataW H → Prop} {ψ' : β → List (DataW H) → Prop} (ho : f.offset = off) (hd : Opens enc P f.type d ψ) (hsz : P.cellsOf f.type = d.sz)
    (ho' : off + d.sz = off') (hf : OpensF enc P fs off' d' ψ') : OpensF enc P (f :: fs) off (Kd.pair d d') (fun a ys => ∃ y ys', ys = y :: ys' ∧ ψ a.1 y ∧ ψ' a.2 ys') := by
  intro w base sp held n cs xs hl hx
  match xs, hl with
  | x :: xs, hl =>
    have h0 := hx 0 f rfl
    obtain ⟨a, h1, h2⟩ := hd w base sp held n _ x h0
    rw [ho, hsz] at h1
    obtain ⟨b, h3, h4⟩ := hf w base sp held n cs xs (by simpa using hl) (fun i g hg => by simpa using hx (i + 1) g (by simpa using hg))
    refine ⟨(a, b), ⟨_, _, ?_, h1, h3⟩, _, _, rfl, h2, h4⟩
    show (cs.drop off).take (d.sz + d'.sz) = _
    rw [List.take_add, List.drop_drop, ho']

theorem opens_struct {α β : Type} {t : TypeId} {fs : Array Field} {d : Kd α} {ψ : α → List (DataW H) → Prop} (f : β → α) (g : α → β) (hfg : ∀ a, f (g a) = a) (ht : P.underlying t = some (.struct fs)) (hf : OpensF enc P fs.toList 0 d ψ) (hsz : P.cellsOf t = d.sz) :
    Opens enc P t (Kd.iso d f) (fun b y => ∃ ys, y = .agg ys ∧ ψ (f b) ys) := by
  intro w base sp held fuel cs y hy
  obtain ⟨xs, n, _, rfl, hl, hlen, hx⟩ := DataW.trod_struct ht hy
  obtain ⟨a, h1, h2⟩ := hf w base sp held n cs xs (by simpa using hlen) (fun i fl hi => hx i fl (by simpa using hi))
  refine ⟨g a, ?_, _, rfl, by rw [hfg]; exact h2⟩
  show d.K w (f (g a)) cs
  rw [hfg]
  rw [List.drop_zero, ← hsz, ← hl, List.take_length] at h1
  exact h1

/-- An argument of a struct's type. -/
theorem arg_struct {α : Type} {W : World} {r : Reach} {b0 : Nat} {t : TypeId} {fs : Array Field} {d : Kd α} {ψ : α → DataW H → Prop} {v : Value} {y : DataW H} {ps : List MemPlace} {sp : Nat → Bool} {held : Bool} (ht : P.underlying t = some (.struct fs)) (hd : Opens enc P t d ψ) (hv : Value.okWide P W r b0 t v)
    (h : DataW.Trod enc P W 0 sp held t v y ps) : ∃ a cs, v = .agg cs ∧ d.K W a cs.toList ∧ ψ a y := by
  obtain ⟨cs, rfl, _⟩ := okWide_struct ht hv
  obtain ⟨fuel, hf⟩ := h
  obtain ⟨a, h1, h2⟩ := hd W _ _ _ fuel _ _ hf
  exact ⟨a, cs, rfl, h1, h2⟩
/-- An argument of a slice's type. -/
theorem arg_slice {α : Type} {W : World} {r : Reach} {b0 : Nat} {t e : TypeId} {d : Kd α} {ψ : α → DataW H → Prop} {v : Value} {y : DataW H} {ps : List MemPlace} {sp : Nat → Bool} {held : Bool} (ht : P.underlying t = some (.slice e)) (hd : Opens enc P e d ψ) (hsz : P.cellsOf e = d.sz) (hv : Value.okWide P W r b0 t v)
    (h : DataW.Trod enc P W 0 sp held t v y ps) : ∃ (xs : List α) (A : Option Addr) (c : Nat), v = .slice A xs.length c ∧ xs.length ≤ c ∧ d.C W A xs.length xs ∧ SliceRel ψ xs y := by
  obtain ⟨A, len, cap, rfl⟩ := okWide_slice ht hv
  obtain ⟨fuel, hf⟩ := h
  obtain ⟨xs, ⟨A', c, h1, h2, h3⟩, h4⟩ := opens_slice ht hd hsz W _ _ _ fuel _ _ hf
  have h1' : Value.slice A len cap = Value.slice A' xs.length c := by simpa [Value.cells] using h1
  exact ⟨xs, A', c, h1', h2, h3, h4⟩
end
end Go.Proofs.Ytpcadcmfdbhmhaa.Opens
