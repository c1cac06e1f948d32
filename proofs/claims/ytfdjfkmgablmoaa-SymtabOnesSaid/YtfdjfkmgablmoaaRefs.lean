/- What the document's answers come to, as plain functions: values compared, found, put. No condition but sizes. -/
import Derived.Test.YtfdjfkmgablmoaaLists
namespace Go.Proofs.Ytfdjfkmgablmoaa.Tab
open Go.RowKit Go.Maps Go.Proofs.YtfdjfkmgablmoaaW.PrintWords Go.Proofs.Ytfdjfkmgablmoaa.PSymtabPlays

/-- Byte by byte. -/
def cmpB : List UInt8 → List UInt8 → Int
  | [], [] => 0
  | [], _ :: _ => -1
  | _ :: _, [] => 1
  | a :: s, b :: t => if a < b then -1 else if b < a then 1 else cmpB s t
theorem cmpB_zero : ∀ s t : List UInt8, cmpB s t = 0 ↔ s = t
  | [], [] => by simp [cmpB]
  | [], _ :: _ => by simp [cmpB]
  | _ :: _, [] => by simp [cmpB]
  | a :: s, b :: t => by
    unfold cmpB
    by_cases h1 : a < b
    · rw [if_pos h1]
      have hne : a ≠ b := fun e => by subst e; exact absurd h1 (UInt8.lt_irrefl a)
      simp [hne]
    · rw [if_neg h1]
      by_cases h2 : b < a
      · rw [if_pos h2]
        have hne : a ≠ b := fun e => by subst e; exact absurd h2 (UInt8.lt_irrefl a)
        simp [hne]
      · rw [if_neg h2]
        have he : a = b := by
          rw [UInt8.lt_iff_toNat_lt] at h1 h2
          exact UInt8.toNat_inj.1 (by omega)
        subst he
        simp [cmpB_zero s t]

theorem bt_drop {s : ByteArray} {i : Nat} (h : i < s.size) : ∃ c : UInt8, bt s (i : Int) = (c.toNat : Int) ∧ s.data.toList.drop i = c :: s.data.toList.drop (i + 1) := by
  refine ⟨s[i], ?_, ?_⟩
  · simp [bt, h]
  · rw [List.drop_eq_getElem_cons (by simpa using h)]
    rfl
theorem drop_end {s : ByteArray} {i : Nat} (h : s.size ≤ i) : s.data.toList.drop i = [] := List.drop_eq_nil_of_le (by simpa using h)

theorem wrap_succ {i n : Nat} (h : i < n) (hn : n ≤ maxLen) : wrap64 ((i : Int) + 1) = ((i + 1 : Nat) : Int) := by
  unfold maxLen at hn
  unfold wrap64
  omega
theorem texts_from (s t : ByteArray) (hs : s.size ≤ maxLen) (_ht : t.size ≤ maxLen) (d : Nat) : ∀ (k i : Nat), s.size - i ≤ d → i ≤ s.size → i ≤ t.size → 2 * d + 2 ≤ k →
    lambrequinref01_texts.l0 k s t (i : Int) = some (cmpB (s.data.toList.drop i) (t.data.toList.drop i)) := by
  induction d with
  | zero =>
    intro k i h1 h2 h3 hk
    obtain ⟨k, rfl⟩ : ∃ m, k = m + 2 := ⟨k - 2, by omega⟩
    have he : i = s.size := by omega
    simp only [lambrequinref01_texts.l0]
    rw [if_neg (by omega)]
    simp only [lambrequinref01_texts.j1]
    rw [if_neg (by simp), drop_end (by omega)]
    by_cases h : i < t.size
    · obtain ⟨c, _, e⟩ := bt_drop h
      rw [if_pos (by omega), e]
      rfl
    · rw [if_neg (by omega), if_neg (by omega), drop_end (by omega)]
      rfl
  | succ d ih =>
    intro k i h1 h2 h3 hk
    obtain ⟨k, rfl⟩ : ∃ m, k = m + 2 := ⟨k - 2, by omega⟩
    by_cases hl : i < s.size
    · obtain ⟨c, hc, ec⟩ := bt_drop hl
      simp only [lambrequinref01_texts.l0]
      rw [if_pos (by omega)]
      by_cases hr : i < t.size
      · obtain ⟨c', hc', ec'⟩ := bt_drop hr
        rw [decide_eq_true (by omega)]
        simp only [lambrequinref01_texts.j1]
        rw [if_pos trivial, if_pos (by omega), if_pos (by omega), if_pos (by omega), hc, hc', ec, ec']
        unfold cmpB
        by_cases g1 : c < c'
        · rw [if_pos g1, if_pos (by rw [UInt8.lt_iff_toNat_lt] at g1; omega)]
        · rw [if_neg g1, if_neg (by rw [UInt8.lt_iff_toNat_lt] at g1; omega)]
          by_cases g2 : c' < c
          · rw [if_pos g2, if_pos (by rw [UInt8.lt_iff_toNat_lt] at g2; omega)]
          · rw [if_neg g2, if_neg (by rw [UInt8.lt_iff_toNat_lt] at g2; omega)]
            rw [wrap_succ hl hs]
            exact ih k (i + 1) (by omega) (by omega) (by omega) (by omega)
      · rw [decide_eq_false (by omega)]
        simp only [lambrequinref01_texts.j1]
        rw [if_neg (by simp), if_neg (by omega), if_pos (by omega), ec, drop_end (s := t) (by omega)]
        rfl
    · have := ih (k + 2) i (by omega) h2 h3 (by omega)
      exact this

theorem texts_eq {s t : ByteArray} (hs : s.size ≤ maxLen) (ht : t.size ≤ maxLen) : Ev (fun k => lambrequinref01_texts.f k s t) (cmpB s.data.toList t.data.toList) :=
  ⟨2 * s.size + 2, fun k hk => by
    have := texts_from s t hs ht s.size k 0 (by omega) (by omega) (by omega) hk
    simpa [lambrequinref01_texts.f] using this⟩

theorem bytes_inj {s t : ByteArray} (h : s.data.toList = t.data.toList) : s = t := by
  obtain ⟨s⟩ := s
  obtain ⟨t⟩ := t
  simpa using h

theorem same_eq {x y : S29} (hx : Ok x) (hy : Ok y) : Ev (fun k => lambrequinref01_Same.f k x.f0 x.f1 x.f2 y.f0 y.f1 y.f2) (decide (norm x = norm y)) := by
  obtain ⟨K, hK⟩ := texts_eq hx.1 hy.1
  refine ⟨K, fun k hk => ?_⟩
  have ht := hK k hk
  obtain ⟨b, s, n⟩ := x
  obtain ⟨b', s', n'⟩ := y
  simp only [lambrequinref01_Same.f, lambrequinref01_Compare.f] at *
  cases b <;> cases b' <;> simp [norm, ht]
  · by_cases h1 : n < n'
    · simp [h1]; omega
    · by_cases h2 : n' < n
      · simp [h1, h2]; omega
      · have : n = n' := by omega
        simp [this]
  · rw [Bool.eq_iff_iff]
    simp only [beq_iff_eq, decide_eq_true_eq, cmpB_zero]
    exact ⟨bytes_inj, fun h => by rw [h]⟩

/-- A list that a table may be. -/
def Fine (L : List S29) : Prop := L.length ≤ 1048576 ∧ ∀ y ∈ L, Ok y ∧ norm y = y
theorem norm_norm (x : S29) : norm (norm x) = norm x := by
  unfold norm
  split <;> simp_all
theorem Fine.put {L : List S29} (h : Fine L) {x : S29} (hx : Ok x) (hl : L.length + 1 ≤ 1048576) : Fine (putL L x) := by
  refine ⟨Nat.le_trans (putL_len L x).2 hl, fun y hy => ?_⟩
  unfold putL at hy
  split at hy
  · exact h.2 y hy
  · rcases List.mem_append.1 hy with hy | hy
    · exact h.2 y hy
    · rw [List.mem_singleton.1 hy]
      exact ⟨hx.norm, norm_norm x⟩
theorem find_from {L : List S29} (hL : Fine L) {x : S29} (hx : Ok x) (d : Nat) : ∀ i : Nat, L.length - i = d → i ≤ L.length →
    Ev (fun k => lambrequinref02_Find.l0 k L (i : Int) x.f0 x.f1 x.f2) (if norm x ∈ L.drop i then (((i + (L.drop i).idxOf (norm x) : Nat) : Int), true) else (0, false)) := by
  induction d with
  | zero =>
    intro i h1 h2
    rw [List.drop_eq_nil_of_le (by omega), if_neg (by simp)]
    refine Ev.step (f := fun _ => some (0, false)) (fun k => ?_) (Ev.now _)
    simp only [lambrequinref02_Find.l0]
    rw [if_neg (by omega)]
  | succ d ih =>
    intro i h1 h2
    have hi : i < L.length := by omega
    have hg : rd_T29 L (i : Int) = L[i] := by simp [rd_T29, List.getD_eq_getElem?_getD, hi]
    obtain ⟨hy, hn⟩ := hL.2 L[i] (List.getElem_mem hi)
    have hs := same_eq hy hx
    have hd : L.drop i = L[i] :: L.drop (i + 1) := List.drop_eq_getElem_cons hi
    refine Ev.step (f := fun k => (lambrequinref01_Same.f k L[i].f0 L[i].f1 L[i].f2 x.f0 x.f1 x.f2).bind fun t => if t = true then some ((i : Int), true) else lambrequinref02_Find.l0 k L ((i + 1 : Nat) : Int) x.f0 x.f1 x.f2) (fun k => ?_) (Ev.bind hs ?_)
    · simp only [lambrequinref02_Find.l0]
      rw [if_pos (by omega), if_pos (by omega), hg, wrap_succ hi (by have := hL.1; unfold maxLen; omega)]
    · rw [hn, hd]
      by_cases he : L[i] = norm x
      · rw [if_pos (by simp [he])]
        simp only [he, decide_true, if_true]
        simpa using Ev.now _
      · have hne : ¬ norm x = L[i] := fun e => he e.symm
        have hb : (L[i] == norm x) = false := by simpa using he
        simp only [he, decide_false, Bool.false_eq_true, if_false]
        have := ih (i + 1) (by omega) (by omega)
        simp only [List.mem_cons, hne, false_or, List.idxOf_cons, hb, cond_false]
        have e : i + ((L.drop (i + 1)).idxOf (norm x) + 1) = i + 1 + (L.drop (i + 1)).idxOf (norm x) := by omega
        rw [e]
        exact this
theorem find_eq {L : List S29} (hL : Fine L) {x : S29} (hx : Ok x) : Ev (fun k => lambrequinref02_Find.f k L x.f0 x.f1 x.f2) (((idx L x : Nat) : Int), decide (norm x ∈ L)) := by
  have := find_from hL hx L.length 0 (by omega) (by omega)
  simp only [List.drop_zero, Nat.zero_add] at this
  unfold idx
  refine Ev.congr (fun k => rfl) (?_ : Ev (fun k => lambrequinref02_Find.l0 k L ((0 : Nat) : Int) x.f0 x.f1 x.f2) _)
  by_cases h : norm x ∈ L <;> simpa [h] using this
theorem refput_eq {L : List S29} (hL : Fine L) {x : S29} (hx : Ok x) : Ev (fun k => lambrequinref02_Put.f k L x.f0 x.f1 x.f2) (putL L x, ((L.idxOf (norm x) : Nat) : Int)) := by
  have hlen := hL.1
  refine Ev.bind (find_eq hL hx) ?_
  by_cases h : norm x ∈ L
  · simp only [h, decide_true, if_true, idx, putL]
    exact Ev.now _
  · have hi := List.idxOf_eq_length h
    obtain ⟨b, s, n⟩ := x
    cases b
    · have e : norm ⟨false, s, n⟩ = ⟨false, ⟨#[]⟩, n⟩ := rfl
      rw [e] at h hi
      simp only [putL, e, h, hi, decide_false, if_false, Bool.false_eq_true]
      simp only [Option.bind_some, List.nil_append, List.length_nil, List.length_singleton, Nat.zero_add]
      rw [if_pos (by omega), if_pos (by omega)]
      exact Ev.now _
    · have e : norm ⟨true, s, n⟩ = ⟨true, s, 0⟩ := rfl
      rw [e] at h hi
      simp only [putL, e, h, hi, decide_false, if_false, Bool.false_eq_true, if_true]
      simp only [Option.bind_some, List.nil_append, List.length_nil, List.length_singleton, Nat.zero_add]
      rw [if_pos (by omega), if_pos (by omega)]
      exact Ev.now _
end Go.Proofs.Ytfdjfkmgablmoaa.Tab
