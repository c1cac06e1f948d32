/- Tokens as a text, and that text's tokens: with no program in sight. -/
import Derived.Test.YtdfjhhhbkgelaaaGreatDoorFig10
import Derived.Test.YtdfjhhhbkgelaaaGreatDoorText
import Derived.Test.YtdfjhhhbkgelaaaGreatDoorDig
namespace Go.Proofs.YtdfjhhhbkgelaaaGreatDoor.V
set_option linter.unusedVariables false
set_option linter.unusedSimpArgs false

/-- A token's text. -/
def toldL (k : Int) (s : List UInt8) (n : Int) (q : Bool) : List UInt8 :=
  if k = 1 ∧ plainL s = true ∧ q = true then 39 :: s ++ [39]
  else if k = 1 ∧ plainL s = false then (if s = [110, 111, 116] ∧ q = false then s else textL true s 0)
  else if k = 3 then Lib.itoa n
  else if k < 1 ∨ 4 < k then []
  else s
def Tok.told (t : Tok) : List UInt8 := toldL t.k t.s t.n t.q
def joinL (l : List Tok) : List UInt8 := l.flatMap fun t => t.told ++ [32]

/-- A token as it is scanned, and nothing else. -/
def TokFit (t : Tok) : Prop :=
  (t.k = 1 ∧ t.n = 0 ∧ t.q = true) ∨
  (t.k = 1 ∧ t.n = 0 ∧ t.q = false ∧ (∃ c u, t.s = c :: u ∧ ofB sml c = true) ∧ (∀ c ∈ t.s, ofB wrdI c = true) ∧ t.s.length ≤ 32) ∨
  (t.k = 2 ∧ t.n = 0 ∧ t.q = false ∧ (∃ c u, t.s = c :: u ∧ ofB bgI c = true) ∧ (∀ c ∈ t.s, ofB wrdI c = true) ∧ t.s.length ≤ 32) ∨
  (t.k = 3 ∧ t.q = false ∧ t.s = [] ∧ -9223372036854775808 ≤ t.n ∧ t.n < 9223372036854775808) ∨
  (t.k = 4 ∧ t.n = 0 ∧ t.q = false ∧ ((t.s = [58, 45] ∨ t.s = [60, 61] ∨ t.s = [62, 61] ∨ t.s = [33, 61]) ∨ ∃ c, t.s = [c] ∧ markOne c = true))

theorem wordI_of (c : UInt8) : wordI (c.toNat : Int) = ofB wrdI c := by
  simp only [wordI, smallI, ofB, wrdI, sml, bgI, figI]
  congr 1
theorem plainL_no {l : List UInt8} (h : plainL l = true) : l.any special = false := by
  unfold plainL at h
  split at h
  · cases h
  · rename_i c t
    simp only [Bool.and_eq_true, List.all_eq_true] at h
    rw [List.any_eq_false]
    have hw : ∀ x ∈ c :: t, wordI (x.toNat : Int) = true := by
      intro x hx
      rcases List.mem_cons.1 hx with rfl | hx
      · rw [wordI, h.1.2]; rfl
      · exact h.2 x hx
    intro x hx
    have := hw x hx
    intro hs
    simp only [special, Bool.or_eq_true, beq_iff_eq] at hs
    rcases hs with (rfl | rfl) | rfl <;> revert this <;> decide
theorem told_quoted (s : List UInt8) (n : Int) : toldL 1 s n true = 39 :: escL s ++ [39] := by
  unfold toldL
  cases hp : plainL s with
  | true => rw [if_pos ⟨rfl, rfl, rfl⟩, escL_none (plainL_no hp)]
  | false =>
    rw [if_neg (by simp), if_pos ⟨rfl, rfl⟩, if_neg (by simp), textL, if_neg (by simp [hp])]
theorem told_name (s : List UInt8) (n : Int) (h : (∃ c u, s = c :: u ∧ ofB sml c = true)) (hw : ∀ c ∈ s, ofB wrdI c = true) : toldL 1 s n false = s := by
  unfold toldL
  rw [if_neg (by simp)]
  split
  · rename_i hp
    split
    · rfl
    · rename_i hn
      exfalso
      obtain ⟨c, u, rfl, hc⟩ := h
      have hp2 := hp.2
      rw [show plainL (c :: u) = (!((c :: u) == [110, 111, 116]) && ofB sml c && u.all fun b => wordI (b.toNat : Int)) from rfl, hc] at hp2
      have h1 : (u.all fun b => wordI (b.toNat : Int)) = true := List.all_eq_true.2 fun x hx => by rw [wordI_of]; exact hw x (List.mem_cons_of_mem _ hx)
      rw [h1] at hp2
      have h2 : ((c :: u) == [110, 111, 116]) = false := by
        rw [beq_eq_false_iff_ne]
        intro e
        exact hn ⟨e, rfl⟩
      rw [h2] at hp2
      cases hp2
  · rw [if_neg (by decide), if_neg (by decide)]

theorem told_num (s : List UInt8) (n : Int) (q : Bool) : toldL ((3 : Nat) : Int) s n q = Lib.itoa n := by
  unfold toldL
  rw [if_neg (by simp), if_neg (by simp), if_pos (by decide)]
theorem quotL_esc : ∀ (s rest : List UInt8), quotL (escL s ++ 39 :: rest) = some (s, rest)
  | [], rest => by
    rw [show escL [] ++ 39 :: rest = 39 :: rest from rfl]
    cases rest with
    | nil => rfl
    | cons d u => rfl
  | c :: s, rest => by
    have ih := quotL_esc s rest
    rw [escL_cons, List.append_assoc]
    rcases escB_cases c with ⟨rfl, e⟩ | ⟨rfl, e⟩ | ⟨rfl, e⟩ | ⟨h1, h2, h3, e⟩
    · rw [e]
      show quotL (92 :: 110 :: (escL s ++ 39 :: rest)) = _
      rw [quotL, ih]
      rfl
    · rw [e]
      show quotL (92 :: 39 :: (escL s ++ 39 :: rest)) = _
      rw [quotL, ih]
      rfl
    · rw [e]
      show quotL (92 :: 92 :: (escL s ++ 39 :: rest)) = _
      rw [quotL, ih]
      rfl
    · rw [e]
      obtain ⟨d, u, hd⟩ : ∃ d u, escL s ++ 39 :: rest = d :: u := by
        cases h : escL s with
        | nil => exact ⟨_, _, rfl⟩
        | cons d u => exact ⟨_, _, rfl⟩
      rw [show [c] ++ (escL s ++ 39 :: rest) = c :: (escL s ++ 39 :: rest) from rfl, hd, quotL, ← hd, ih]
      rw [if_neg (by simpa using h2), if_neg (by simpa using h1), if_neg (by simpa using h3)]
      rfl
theorem take_all (P : UInt8 → Bool) (l : List UInt8) (h : ∀ c ∈ l, P c = true) (d : UInt8) (r : List UInt8) (hd : P d = false) : (l ++ d :: r).takeWhile P = l ∧ (l ++ d :: r).dropWhile P = d :: r := by
  induction l with
  | nil => simp [hd]
  | cons c u ih =>
    have hc := h c (List.mem_cons_self ..)
    have h2 := ih fun x hx => h x (List.mem_cons_of_mem _ hx)
    rw [List.cons_append]
    simp [hc, h2.1, h2.2]
theorem named_back (k : Nat) (s r : List UInt8) (hw : ∀ c ∈ s, ofB wrdI c = true) (hl : s.length ≤ 32) : namedL k (s ++ 32 :: r) = .tok ⟨k, s, 0, false⟩ (32 :: r) := by
  obtain ⟨a, b⟩ := take_all (ofB wrdI) s hw 32 r (by decide)
  unfold namedL
  rw [a, b, if_neg (by omega)]
theorem num_back_low (u : Nat) (r : List UInt8) (hu : u ≤ 9223372036854775808) : numL 45 (Lib.decDigits u ++ 32 :: r) = .tok ⟨3, [], -(u : Int), false⟩ (32 :: r) := by
  obtain ⟨h1, h2, h3⟩ := digs u
  obtain ⟨a, b⟩ := take_all (ofB figI) _ h1 32 r (by decide)
  unfold numL
  rw [a, b, parseI_low _ h1 h2, h3, if_neg (by omega)]
theorem num_back_high (c : UInt8) (l : List UInt8) (u : Nat) (hc : Lib.decDigits u = c :: l) (r : List UInt8) (hu : u < 9223372036854775808) : numL c (l ++ 32 :: r) = .tok ⟨3, [], (u : Int), false⟩ (32 :: r) := by
  obtain ⟨h1, h2, h3⟩ := digs u
  rw [hc] at h1 h3
  obtain ⟨a, b⟩ := take_all (ofB figI) l (fun x hx => h1 x (List.mem_cons_of_mem _ hx)) 32 r (by decide)
  unfold numL
  rw [a, b, parseI_high c l h1, h3, if_neg (by omega)]

/-- A byte that ends no blank. -/
abbrev solid (c : UInt8) : Prop := ofB gapI c = false
theorem told_back (t : Tok) (h : TokFit t) (r : List UInt8) : ∃ c u, t.told = c :: u ∧ solid c ∧ oneL c (u ++ 32 :: r) = .tok t (32 :: r) := by
  obtain ⟨k, s, n, q⟩ := t
  unfold Tok.told
  rcases h with ⟨h1, h2, h3⟩ | ⟨h1, h2, h3, ⟨c, u, h4, h5⟩, h6, h7⟩ | ⟨h1, h2, h3, ⟨c, u, h4, h5⟩, h6, h7⟩ | ⟨h1, h2, h3, h4, h5⟩ | ⟨h1, h2, h3, h4⟩ <;> dsimp only at * <;> subst h1 <;> subst h2
  · subst h3
    refine ⟨39, escL s ++ [39], by rw [show ((1 : Nat) : Int) = 1 from rfl]; exact told_quoted s 0, by decide, ?_⟩
    rw [oneL, if_neg (by decide), if_neg (by decide), if_neg (by simp [ofB, figI]), if_pos (by decide), List.append_assoc, List.singleton_append, quotL_esc]
    rfl
  · subst h3
    refine ⟨c, u, ?_, ?_, ?_⟩
    · rw [← h4]
      exact told_name s 0 ⟨c, u, h4, h5⟩ h6
    · simp only [solid, ofB, gapI, blankI, sml] at *
      simp at *
      omega
    · rw [oneL, if_pos h5, ← List.cons_append, ← h4]
      exact named_back 1 s r h6 h7
  · subst h3
    have hns : ofB sml c = false := by
      simp only [ofB, bgI, sml] at *
      simp at *
      omega
    refine ⟨c, u, ?_, ?_, ?_⟩
    · rw [← h4]
      unfold toldL
      rw [if_neg (by simp), if_neg (by simp), if_neg (by simp), if_neg (by simp)]
    · simp only [solid, ofB, gapI, blankI, bgI] at *
      simp at *
      omega
    · rw [oneL, if_neg (by simp [hns]), if_pos h5, ← List.cons_append, ← h4]
      exact named_back 2 s r h6 h7
  · subst h3
    have ht : toldL ((3 : Nat) : Int) [] n false = Lib.itoa n := by
      unfold toldL
      rw [if_neg (by simp), if_neg (by simp), if_pos (by decide)]
    rw [ht]
    unfold Lib.itoa
    by_cases hn : n < 0
    · rw [if_pos hn]
      obtain ⟨a, b, c⟩ := digs n.natAbs
      refine ⟨45, _, rfl, by decide, ?_⟩
      have hh : ofB figI ((Lib.decDigits n.natAbs ++ 32 :: r).headD 0) = true := by
        cases hd : Lib.decDigits n.natAbs with
        | nil => exact absurd hd b
        | cons x y => rw [hd] at a; exact a x (List.mem_cons_self ..)
      have he : (Lib.decDigits n.natAbs ++ 32 :: r).isEmpty = false := by simp
      rw [oneL, if_neg (by decide), if_neg (by decide), if_pos (by rw [hh, he]; decide), num_back_low _ _ (by omega)]
      simp only [Got.tok.injEq, Tok.mk.injEq, and_true, true_and]
      omega
    · rw [if_neg hn]
      obtain ⟨a, b, c⟩ := digs n.toNat
      cases hd : Lib.decDigits n.toNat with
      | nil => exact absurd hd b
      | cons x y =>
        rw [hd] at a
        have hx := a x (List.mem_cons_self ..)
        have hx2 := fig_of hx
        have hs1 : ofB sml x = false := by simp only [ofB, sml]; simp; omega
        have hs2 : ofB bgI x = false := by simp only [ofB, bgI]; simp; omega
        refine ⟨x, y, rfl, ?_, ?_⟩
        · simp only [solid, ofB, gapI, blankI] at *
          simp at *
          omega
        · rw [oneL, if_neg (by simp [hs1]), if_neg (by simp [hs2]), if_pos (by rw [hx]; rfl), num_back_high x y n.toNat hd r (by omega)]
          simp only [Got.tok.injEq, Tok.mk.injEq, and_true, true_and]
          omega
  · subst h3
    have ht : toldL ((4 : Nat) : Int) s 0 false = s := by
      unfold toldL
      rw [if_neg (by simp), if_neg (by simp), if_neg (by simp), if_neg (by simp)]
    rw [ht]
    rcases h4 with (rfl | rfl | rfl | rfl) | ⟨c, rfl, hc⟩
    · exact ⟨_, _, rfl, by decide, rfl⟩
    · exact ⟨_, _, rfl, by decide, rfl⟩
    · exact ⟨_, _, rfl, by decide, rfl⟩
    · exact ⟨_, _, rfl, by decide, rfl⟩
    · refine ⟨c, [], rfl, ?_⟩
      simp only [markOne, Bool.or_eq_true, beq_iff_eq] at hc
      rcases hc with ((((((rfl | rfl) | rfl) | rfl) | rfl) | rfl) | rfl) | rfl <;> exact ⟨by decide, rfl⟩

theorem skip_solid {c : UInt8} (h : solid c) (u : List UInt8) : skipR false (c :: u) = c :: u := by
  rw [skipR, if_pos]
  simp only [solid, ofB, gapI, Bool.or_eq_false_iff] at h
  simp only [Bool.false_or, Bool.and_eq_true, Bool.not_eq_true', beq_eq_false_iff_ne, ne_eq]
  refine ⟨?_, h.1⟩
  intro e
  subst e
  exact absurd h.2 (by decide)
theorem skip_blank (u : List UInt8) : skipR false (32 :: u) = skipR false u := by
  have h : ofB blankI 32 = true := by decide
  rw [skipR, h]
  simp
/-- What is joined is scanned as it was, but for the places. -/
theorem join_back (N : Nat) : ∀ (L : List Tok), (∀ t ∈ L, TokFit t) → ∃ L', scanT N (joinL L) = .ok L' ∧ L'.map Prod.fst = L
  | [], _ => ⟨[], scanT_nil N _ rfl, rfl⟩
  | t :: L, h => by
    obtain ⟨L', h1, h2⟩ := join_back N L fun x hx => h x (List.mem_cons_of_mem _ hx)
    obtain ⟨c, u, h3, h4, h5⟩ := told_back t (h t (List.mem_cons_self ..)) (joinL L)
    have e : joinL (t :: L) = c :: (u ++ 32 :: joinL L) := by
      rw [joinL, List.flatMap_cons, h3, List.append_assoc]
      rfl
    rw [e]
    refine ⟨(t, N - (c :: (u ++ 32 :: joinL L)).length) :: L', ?_, by rw [List.map_cons, h2]⟩
    rw [scanT_tok N _ c _ t _ (skip_solid h4 _) h5, ← scanT_skip, skip_blank, scanT_skip, h1]
    rfl

theorem mem_take {P : UInt8 → Bool} {l : List UInt8} : ∀ c ∈ l.takeWhile P, P c = true := fun c hc => by
  have := List.all_takeWhile (p := P) (l := l)
  exact List.all_eq_true.1 this c hc
theorem escL_le2 (l : List UInt8) : (escL l).length ≤ 2 * l.length := by
  have h1 := escL_length l
  have h2 := cntS_le l
  omega
theorem quotL_len : ∀ (n : Nat) (l : List UInt8), l.length ≤ n → ∀ b r, quotL l = some (b, r) → b.length + 1 + r.length ≤ l.length := by
  intro n
  induction n with
  | zero =>
    intro l hl b r h
    match l, hl with
    | [], _ => simp [quotL] at h
  | succ n ih =>
    intro l hl b r h
    match l with
    | [] => simp [quotL] at h
    | [c] =>
      unfold quotL at h
      split at h
      · simp at h; rw [h.1, h.2]; simp
      · simp at h
    | c :: d :: u =>
      unfold quotL at h
      split at h
      · simp at h; rw [h.1, ← h.2]; simp; omega
      · split at h
        · simp at h
        · split at h
          · split at h
            · simp only [Option.map_eq_some_iff] at h
              obtain ⟨p, hp, he⟩ := h
              have := ih u (by simp at hl; omega) p.1 p.2 hp
              simp at he
              rw [← he.1, ← he.2]; simp; omega
            · simp at h
          · simp only [Option.map_eq_some_iff] at h
            obtain ⟨p, hp, he⟩ := h
            have := ih (d :: u) (by simp at hl ⊢; omega) p.1 p.2 hp
            simp at he this
            rw [← he.1, ← he.2]; simp; omega
theorem num_fit (c : UInt8) (t : List UInt8) (k : Tok) (r : List UInt8) (hc : ofB figI c = true ∨ (c = 45 ∧ t.isEmpty = false ∧ ofB figI (t.headD 0) = true)) (h : numL c t = .tok k r) : TokFit k ∧ k.told.length + r.length ≤ (c :: t).length := by
  have hl := length_takeDrop (ofB figI) t
  have hf : allFig (t.takeWhile (ofB figI)) := mem_take
  unfold numL at h
  rcases hc with hc | ⟨rfl, he, hh⟩
  · have hall : allFig (c :: t.takeWhile (ofB figI)) := by
      intro x hx
      rcases List.mem_cons.1 hx with rfl | hx
      · exact hc
      · exact hf x hx
    rw [parseI_high _ _ hall] at h
    by_cases hb : 9223372036854775808 ≤ valF 0 (c :: t.takeWhile (ofB figI))
    · rw [if_pos hb] at h; cases h
    · rw [if_neg hb] at h
      simp only [Got.tok.injEq] at h
      obtain ⟨rfl, rfl⟩ := h
      refine ⟨.inr (.inr (.inr (.inl ⟨rfl, rfl, rfl, by dsimp only; omega, by dsimp only; omega⟩))), ?_⟩
      have h1 := valF_lt _ 0 hall
      have h2 := digs_len (valF 0 (c :: t.takeWhile (ofB figI))) (t.takeWhile (ofB figI)).length (by simpa using h1)
      have ht : Tok.told ⟨3, [], (valF 0 (c :: t.takeWhile (ofB figI)) : Int), false⟩ = Lib.decDigits (valF 0 (c :: t.takeWhile (ofB figI))) := by
        show toldL ((3 : Nat) : Int) [] (valF 0 (c :: t.takeWhile (ofB figI)) : Int) false = _
        rw [told_num, Lib.itoa, if_neg (by omega)]
        rfl
      rw [ht]
      simp only [List.length_cons]
      omega
  · have hne : t.takeWhile (ofB figI) ≠ [] := by
      cases t with
      | nil => simp at he
      | cons x y => rw [List.takeWhile_cons_of_pos (show ofB figI x = true from hh)]; simp
    rw [parseI_low _ hf hne] at h
    by_cases hb : 9223372036854775808 < valF 0 (t.takeWhile (ofB figI))
    · rw [if_pos hb] at h; cases h
    · rw [if_neg hb] at h
      simp only [Got.tok.injEq] at h
      obtain ⟨rfl, rfl⟩ := h
      refine ⟨.inr (.inr (.inr (.inl ⟨rfl, rfl, rfl, by dsimp only; omega, by dsimp only; omega⟩))), ?_⟩
      have h1 := valF_lt _ 0 hf
      obtain ⟨m, hm⟩ : ∃ m, (t.takeWhile (ofB figI)).length = m + 1 := by
        cases hx : t.takeWhile (ofB figI) with
        | nil => exact absurd hx hne
        | cons x y => exact ⟨y.length, rfl⟩
      rw [hm] at h1
      have h2 := digs_len (valF 0 (t.takeWhile (ofB figI))) m (by simpa using h1)
      have ht : (Tok.told ⟨3, [], -(valF 0 (t.takeWhile (ofB figI)) : Int), false⟩).length ≤ 1 + (Lib.decDigits (valF 0 (t.takeWhile (ofB figI)))).length := by
        show (toldL ((3 : Nat) : Int) [] _ false).length ≤ _
        rw [told_num, Lib.itoa]
        by_cases hz : -(valF 0 (t.takeWhile (ofB figI)) : Int) < 0
        · rw [if_pos hz, Int.natAbs_neg, Int.natAbs_natCast, List.length_cons]
          omega
        · rw [if_neg hz, show valF 0 (t.takeWhile (ofB figI)) = 0 by omega]
          simp
      simp only [List.length_cons]
      omega
theorem one_fit (c : UInt8) (t : List UInt8) (k : Tok) (r : List UInt8) (h : oneL c t = .tok k r) : TokFit k ∧ k.told.length + 1 + 3 * r.length ≤ 3 * (c :: t).length := by
  have hlt := oneL_lt c t k r h
  have hn : ∀ kk, (namedL kk (c :: t) = .tok k r) → ofB wrdI c = true → k = ⟨kk, (c :: t).takeWhile (ofB wrdI), 0, false⟩ ∧ (∃ u, k.s = c :: u) ∧ (∀ x ∈ k.s, ofB wrdI x = true) ∧ k.s.length ≤ 32 ∧ k.s.length + r.length = (c :: t).length := by
    intro kk h hc
    unfold namedL at h
    split at h
    · simp at h
    · rename_i hl
      simp only [Got.tok.injEq] at h
      obtain ⟨rfl, rfl⟩ := h
      exact ⟨rfl, ⟨t.takeWhile (ofB wrdI), List.takeWhile_cons_of_pos hc⟩, mem_take, by simpa using hl, length_takeDrop _ _⟩
  unfold oneL at h
  split at h
  · rename_i hs
    obtain ⟨h1, ⟨u, h2⟩, h3, h4, h5⟩ := hn 1 h (by simp_all [ofB, wrdI])
    have ht : k.told = k.s := by
      have := told_name k.s 0 ⟨c, u, h2, hs⟩ h3
      rw [h1]
      rw [h1] at this
      exact this
    refine ⟨.inr (.inl ⟨by rw [h1], by rw [h1], by rw [h1], ⟨c, u, h2, hs⟩, h3, h4⟩), ?_⟩
    rw [ht]
    omega
  · split at h
    · rename_i hs
      obtain ⟨h1, ⟨u, h2⟩, h3, h4, h5⟩ := hn 2 h (by simp_all [ofB, wrdI])
      have ht : k.told = k.s := by
        rw [h1]
        unfold Tok.told toldL
        rw [if_neg (by simp), if_neg (by simp), if_neg (by simp), if_neg (by simp)]
      refine ⟨.inr (.inr (.inl ⟨by rw [h1], by rw [h1], by rw [h1], ⟨c, u, h2, hs⟩, h3, h4⟩)), ?_⟩
      rw [ht]
      omega
    · split at h
      · rename_i hc
        have h1 := num_fit c t k r (by
          simp only [Bool.or_eq_true, Bool.and_eq_true, beq_iff_eq, Bool.not_eq_true'] at hc
          rcases hc with hc | hc
          · exact .inl hc
          · exact .inr ⟨hc.1.1, hc.1.2, hc.2⟩) h
        exact ⟨h1.1, by omega⟩
      · split at h
        · unfold qres at h
          split at h
          · rename_i p hp
            simp only [Got.tok.injEq] at h
            obtain ⟨rfl, rfl⟩ := h
            have h1 := quotL_len _ t (Nat.le_refl _) p.1 p.2 hp
            have h2 := escL_le2 p.1
            refine ⟨.inl ⟨rfl, rfl, rfl⟩, ?_⟩
            have ht : Tok.told ⟨1, p.1, 0, true⟩ = 39 :: escL p.1 ++ [39] := told_quoted p.1 0
            rw [ht]
            simp
            omega
          · simp at h
        · have hm : ∀ s : List UInt8, k = ⟨4, s, 0, false⟩ → k.told = s := by
            intro s hs
            rw [hs]
            unfold Tok.told toldL
            rw [if_neg (by simp), if_neg (by simp), if_neg (by simp), if_neg (by simp)]
          unfold markL at h
          split at h
          · rename_i hm2
            simp only [Got.tok.injEq] at h
            obtain ⟨h1, h2⟩ := h
            have h3 := hm _ h1.symm
            rw [h3]
            cases t with
            | nil => simp [markTwo, List.isPrefixOf] at hm2
            | cons d v =>
              subst h1
              subst h2
              refine ⟨.inr (.inr (.inr (.inr ⟨rfl, rfl, rfl, .inl ?_⟩))), by simp; omega⟩
              simp only [markTwo, List.isPrefixOf, Bool.and_true, Bool.or_eq_true, Bool.and_eq_true, beq_iff_eq] at hm2
              show [c, d] = _ ∨ _
              rcases hm2 with ((⟨a, b⟩ | ⟨a, b⟩) | ⟨a, b⟩) | ⟨a, b⟩ <;> subst a <;> subst b <;> simp
          · split at h
            · rename_i hm1
              simp only [Got.tok.injEq] at h
              obtain ⟨h1, h2⟩ := h
              have h3 := hm _ h1.symm
              rw [h3]
              subst h1
              subst h2
              exact ⟨.inr (.inr (.inr (.inr ⟨rfl, rfl, rfl, .inr ⟨c, rfl, hm1⟩⟩))), by simp; omega⟩
            · simp at h
theorem scanT_fit (N : Nat) : ∀ (n : Nat) (l : List UInt8), l.length ≤ n → ∀ L, scanT N l = .ok L → (∀ t ∈ L.map Prod.fst, TokFit t) ∧ (joinL (L.map Prod.fst)).length ≤ 3 * l.length := by
  intro n
  induction n with
  | zero =>
    intro l hl L h
    match l, hl with
    | [], _ =>
      rw [scanT_nil N [] rfl] at h
      injection h with h
      subst h
      exact ⟨by simp, by simp [joinL]⟩
  | succ n ih =>
    intro l hl L h
    cases hs : skipR false l with
    | nil =>
      rw [scanT_nil N l hs] at h
      injection h with h
      subst h
      exact ⟨by simp, by simp [joinL]⟩
    | cons c t =>
      cases ho : oneL c t with
      | bad e => rw [scanT_bad N l c t e hs ho] at h; cases h
      | tok k r =>
        rw [scanT_tok N l c t k r hs ho] at h
        have h1 := skipR_le l false
        have h2 := oneL_lt c t k r ho
        obtain ⟨h3, h4⟩ := one_fit c t k r ho
        rw [hs] at h1
        cases hr : scanT N r with
        | bad a e => rw [hr] at h; cases h
        | ok R =>
          rw [hr] at h
          simp only [Scan.cons, Scan.ok.injEq] at h
          subst h
          obtain ⟨h5, h6⟩ := ih r (by omega) R hr
          refine ⟨?_, ?_⟩
          · intro x hx
            rcases List.mem_cons.1 hx with rfl | hx
            · exact h3
            · exact h5 x hx
          · rw [List.map_cons, joinL, List.flatMap_cons, List.length_append, List.length_append, ← joinL]
            simp only [List.length_singleton]
            omega
/-- The law: what was scanned and is joined is scanned as it was. -/
theorem scan_join_scan (s : List UInt8) (hs : s.length ≤ 8000) (L : List (Tok × Nat)) (h : scanL s = .ok L) : (joinL (L.map Prod.fst)).length ≤ 24000 ∧ ∃ L', scanL (joinL (L.map Prod.fst)) = .ok L' ∧ L'.map Prod.fst = L.map Prod.fst := by
  unfold scanL at h
  rw [if_neg (by omega)] at h
  obtain ⟨h1, h2⟩ := scanT_fit s.length s.length s (Nat.le_refl _) L h
  refine ⟨by omega, ?_⟩
  unfold scanL
  rw [if_neg (by omega)]
  exact join_back _ _ h1
end Go.Proofs.YtdfjhhhbkgelaaaGreatDoor.V
