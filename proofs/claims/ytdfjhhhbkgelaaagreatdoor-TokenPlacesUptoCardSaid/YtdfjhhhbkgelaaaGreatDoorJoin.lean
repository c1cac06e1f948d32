/- The tokens of two texts with a line's end between: with no program in sight. -/
import Derived.Test.YtdfjhhhbkgelaaaGreatDoorTok
namespace Go.Proofs.YtdfjhhhbkgelaaaGreatDoor.V
set_option linter.unusedVariables false
set_option linter.unusedSimpArgs false

theorem skipR_nl (m : Bool) (t : List UInt8) : skipR m (10 :: t) = skipR false t := by
  rw [skipR]
  have h : ofB blankI 10 = true := by decide
  rw [h]
  simp
theorem skipR_app (t : List UInt8) : ∀ (l : List UInt8) (m : Bool), skipR m (l ++ 10 :: t) = match skipR m l with
    | [] => skipR false t
    | c :: u => c :: u ++ 10 :: t := by
  intro l
  induction l with
  | nil => intro m; exact skipR_nl m t
  | cons c u ih =>
    intro m
    rw [List.cons_append, skipR, skipR]
    split
    · rfl
    · exact ih _
theorem quotL_app (t : List UInt8) : ∀ (n : Nat) (l : List UInt8), l.length ≤ n → quotL (l ++ 10 :: t) = (quotL l).map fun p => (p.1, p.2 ++ 10 :: t) := by
  intro n
  induction n with
  | zero =>
    intro l hl
    match l, hl with
    | [], _ => cases t <;> rfl
  | succ n ih =>
    intro l hl
    match l with
    | [] => cases t <;> rfl
    | [c] =>
      have hx : quotL (10 :: t) = none := by cases t <;> rfl
      rw [show [c] ++ 10 :: t = c :: 10 :: t from rfl, quotL, quotL]
      by_cases h1 : (c == 39) = true
      · simp [h1]
      · simp only [h1, Bool.false_eq_true, if_false, hx]
        simp
    | c :: d :: u =>
      have h2 := ih u (by simp at hl; omega)
      have h3 := ih (d :: u) (by simp at hl ⊢; omega)
      rw [show (c :: d :: u) ++ 10 :: t = c :: d :: (u ++ 10 :: t) from rfl, quotL]
      conv => rhs; rw [quotL]
      rw [show d :: (u ++ 10 :: t) = (d :: u) ++ 10 :: t from rfl, h2, h3]
      split
      · simp
      · split
        · simp
        · split
          · split
            · cases quotL u <;> simp
            · simp
          · cases quotL (d :: u) <;> simp

theorem take_app (P : UInt8 → Bool) (h10 : P 10 = false) (t : List UInt8) : ∀ l : List UInt8, (l ++ 10 :: t).takeWhile P = l.takeWhile P ∧ (l ++ 10 :: t).dropWhile P = l.dropWhile P ++ 10 :: t := by
  intro l
  induction l with
  | nil => simp [h10]
  | cons c u ih =>
    rw [List.cons_append]
    cases hc : P c with
    | true => simp [hc, ih.1, ih.2]
    | false => simp [hc]
def Got.app (t : List UInt8) : Got → Got
  | .bad e => .bad e
  | .tok k r => .tok k (r ++ t)
theorem namedL_app (kk : Nat) (l t : List UInt8) : namedL kk (l ++ 10 :: t) = (namedL kk l).app (10 :: t) := by
  have h := take_app (ofB wrdI) (by decide) t l
  unfold namedL
  rw [h.1, h.2]
  split <;> rfl
theorem numL_app (c : UInt8) (u t : List UInt8) : numL c (u ++ 10 :: t) = (numL c u).app (10 :: t) := by
  have h := take_app (ofB figI) (by decide) t u
  unfold numL
  rw [h.1, h.2]
  split <;> rfl
theorem markTwo_app (c : UInt8) (u t : List UInt8) : markTwo (c :: u ++ 10 :: t) = markTwo (c :: u) := by
  cases u with
  | nil => simp [markTwo, List.isPrefixOf]
  | cons d v => simp [markTwo, List.isPrefixOf]
theorem markL_app (c : UInt8) (u t : List UInt8) : markL (c :: u ++ 10 :: t) = (markL (c :: u)).app (10 :: t) := by
  unfold markL
  rw [markTwo_app]
  split
  · rename_i h
    cases u with
    | nil => simp [markTwo, List.isPrefixOf] at h
    | cons d v => simp [Got.app]
  · rw [show (c :: u ++ 10 :: t).headD 0 = c from rfl, show (c :: u).headD 0 = c from rfl]
    split
    · simp [Got.app]
    · rfl
theorem oneL_app (c : UInt8) (u t : List UInt8) : oneL c (u ++ 10 :: t) = (oneL c u).app (10 :: t) := by
  have hc : (c == 45 && !(u ++ 10 :: t).isEmpty && ofB figI ((u ++ 10 :: t).headD 0)) = (c == 45 && !u.isEmpty && ofB figI (u.headD 0)) := by
    cases u with
    | nil => simp [ofB, figI]
    | cons d v => simp
  have h1 := namedL_app 1 (c :: u) t
  have h2 := namedL_app 2 (c :: u) t
  have h5 := markL_app c u t
  rw [List.cons_append] at h1 h2 h5
  unfold oneL
  rw [hc]
  split
  · exact h1
  · split
    · exact h2
    · split
      · exact numL_app c u t
      · split
        · rw [quotL_app t _ u (Nat.le_refl _)]
          cases quotL u <;> rfl
        · exact h5
/-- The tokens of both. -/
theorem scanT_app (t : List UInt8) : ∀ (n : Nat) (l : List UInt8) (N : Nat), l.length ≤ n → l.length ≤ N → scanT (N + 1 + t.length) (l ++ 10 :: t) = match scanT N l with
    | .bad a e => .bad a e
    | .ok L => Scan.app L (scanT (N + 1 + t.length) t) := by
  intro n
  induction n with
  | zero =>
    intro l N hl _
    match l, hl with
    | [], _ =>
      rw [scanT_nil N [] rfl, List.nil_append, ← scanT_skip, skipR_nl, scanT_skip]
      cases scanT (N + 1 + t.length) t <;> rfl
  | succ n ih =>
    intro l N hl hN
    have hs := skipR_app t l false
    cases hk : skipR false l with
    | nil =>
      rw [hk] at hs
      rw [scanT_nil N l hk, ← scanT_skip, hs, scanT_skip]
      cases scanT (N + 1 + t.length) t <;> rfl
    | cons c u =>
      rw [hk] at hs
      have ho := oneL_app c u t
      have hle := skipR_le l false
      rw [hk] at hle
      have hpos : N + 1 + t.length - (c :: (u ++ 10 :: t)).length = N - (c :: u).length := by simp; omega
      cases hg : oneL c u with
      | bad e =>
        rw [hg] at ho
        rw [scanT_bad N l c u e hk hg, scanT_bad _ _ c (u ++ 10 :: t) e hs ho, hpos]
      | tok k r =>
        rw [hg] at ho
        have hr := oneL_lt c u k r hg
        rw [scanT_tok N l c u k r hk hg, scanT_tok _ _ c (u ++ 10 :: t) k (r ++ 10 :: t) hs ho, hpos, ih r N (by omega) (by omega)]
        cases scanT N r with
        | bad a e => rfl
        | ok L => cases scanT (N + 1 + t.length) t <;> rfl
end Go.Proofs.YtdfjhhhbkgelaaaGreatDoor.V
