/- The tokens' places: behind blanks, and behind another text, all are moved by as many; they rise: with no program in sight. -/
import Derived.Test.YtdfjhhhbkgelaaaGreatDoorJoin
namespace Go.Proofs.YtdfjhhhbkgelaaaGreatDoor.V
set_option linter.unusedVariables false
set_option linter.unusedSimpArgs false

def Scan.shift (k : Nat) : Scan → Scan
  | .bad a e => .bad (a + k) e
  | .ok L => .ok (L.map fun p => (p.1, p.2 + k))
/-- Places stand between two bounds, and rise. -/
def Rise : Nat → Nat → List (Tok × Nat) → Prop
  | a, b, [] => True
  | a, b, p :: L => a ≤ p.2 ∧ p.2 < b ∧ Rise (p.2 + 1) b L
def Scan.within (a b : Nat) : Scan → Prop
  | .bad p e => a ≤ p ∧ p < b
  | .ok L => Rise a b L

theorem Rise.mono {b : Nat} : ∀ {L : List (Tok × Nat)} {a a' : Nat}, a' ≤ a → Rise a b L → Rise a' b L
  | [], _, _, _, _ => trivial
  | p :: L, a, a', h, ⟨h1, h2, h3⟩ => ⟨Nat.le_trans h h1, h2, h3⟩
theorem Scan.within.mono {a a' b : Nat} (h : a' ≤ a) : ∀ {s : Scan}, s.within a b → s.within a' b
  | .bad p e, ⟨h1, h2⟩ => ⟨Nat.le_trans h h1, h2⟩
  | .ok L, h1 => Rise.mono h h1
theorem Scan.shift_cons (k : Nat) (x : Tok × Nat) (s : Scan) : (s.cons x).shift k = (s.shift k).cons (x.1, x.2 + k) := by
  cases s <;> rfl

theorem scanT_shift (k : Nat) : ∀ (n : Nat) (l : List UInt8) (N : Nat), l.length ≤ n → l.length ≤ N → scanT (N + k) l = (scanT N l).shift k := by
  intro n
  induction n with
  | zero =>
    intro l N hl _
    match l, hl with
    | [], _ => rw [scanT_nil _ [] rfl, scanT_nil _ [] rfl]; rfl
  | succ n ih =>
    intro l N hl hN
    cases hk : skipR false l with
    | nil => rw [scanT_nil _ l hk, scanT_nil _ l hk]; rfl
    | cons c u =>
      have hle := skipR_le l false
      rw [hk] at hle
      have hpos : N + k - (c :: u).length = N - (c :: u).length + k := by omega
      cases hg : oneL c u with
      | bad e => rw [scanT_bad _ l c u e hk hg, scanT_bad _ l c u e hk hg, hpos]; rfl
      | tok t r =>
        have hr := oneL_lt c u t r hg
        rw [scanT_tok _ l c u t r hk hg, scanT_tok _ l c u t r hk hg, hpos, ih r N (by omega) (by omega), Scan.shift_cons]

theorem scanT_within : ∀ (n : Nat) (l : List UInt8) (N : Nat), l.length ≤ n → l.length ≤ N → (scanT N l).within (N - l.length) N := by
  intro n
  induction n with
  | zero =>
    intro l N hl _
    match l, hl with
    | [], _ => rw [scanT_nil _ [] rfl]; exact trivial
  | succ n ih =>
    intro l N hl hN
    cases hk : skipR false l with
    | nil => rw [scanT_nil _ l hk]; exact trivial
    | cons c u =>
      have hle := skipR_le l false
      rw [hk] at hle
      have h1 : 1 ≤ (c :: u).length := by simp
      cases hg : oneL c u with
      | bad e =>
        rw [scanT_bad _ l c u e hk hg]
        exact ⟨by omega, by omega⟩
      | tok t r =>
        have hr := oneL_lt c u t r hg
        rw [scanT_tok _ l c u t r hk hg]
        have hi := ih r N (by omega) (by omega)
        have hi2 : (scanT N r).within (N - (c :: u).length + 1) N := Scan.within.mono (by omega) hi
        cases hs : scanT N r with
        | bad a e =>
          rw [hs] at hi2
          exact ⟨Nat.le_trans (by omega) hi2.1, hi2.2⟩
        | ok L =>
          rw [hs] at hi2
          exact ⟨by show N - l.length ≤ N - (c :: u).length; omega, by show N - (c :: u).length < N; omega, hi2⟩

theorem skipR_pad (n : Nat) (l : List UInt8) : skipR false (List.replicate n 32 ++ l) = skipR false l := by
  induction n with
  | zero => rfl
  | succ n ih =>
    rw [List.replicate_succ, List.cons_append, skipR]
    have h : ofB blankI 32 = true := by decide
    rw [h]
    simpa using ih
/-- Blanks ahead. -/
theorem scanL_pad (n : Nat) (s : List UInt8) (h : n + s.length ≤ 65536) : scanL (List.replicate n 32 ++ s) = (scanL s).shift n := by
  have h1 : ¬ 65536 < (List.replicate n (32 : UInt8) ++ s).length := by simp; omega
  have h2 : ¬ 65536 < s.length := by omega
  unfold scanL
  rw [if_neg h1, if_neg h2]
  show scanT _ _ = Scan.shift n (scanT _ _)
  rw [← scanT_skip, skipR_pad, scanT_skip, show (List.replicate n (32 : UInt8) ++ s).length = s.length + n by simp; omega]
  exact scanT_shift n s.length s s.length (Nat.le_refl _) (Nat.le_refl _)
theorem scanL_within (s : List UInt8) (h : s.length ≤ 65536) : (scanL s).within 0 s.length := by
  unfold scanL
  rw [if_neg (by omega)]
  exact Scan.within.mono (Nat.zero_le _) (scanT_within s.length s s.length (Nat.le_refl _) (Nat.le_refl _))
/-- Two texts with a line's end between. -/
theorem scanL_join (s t : List UInt8) (h : s.length + 1 + t.length ≤ 65536) : scanL (s ++ 10 :: t) = match scanL (s ++ [10]) with
    | .bad a e => .bad a e
    | .ok L => Scan.app L ((scanL t).shift (s.length + 1)) := by
  have h1 : ¬ 65536 < (s ++ 10 :: t).length := by simp; omega
  have h2 : ¬ 65536 < (s ++ [(10 : UInt8)]).length := by simp; omega
  have h3 : ¬ 65536 < t.length := by omega
  unfold scanL
  rw [if_neg h1, if_neg h2, if_neg h3]
  show scanT _ _ = match scanT _ _ with
    | .bad a e => .bad a e
    | .ok L => Scan.app L ((scanT _ _).shift (s.length + 1))
  rw [show (s ++ 10 :: t).length = s.length + 1 + t.length by simp; omega, show (s ++ [(10 : UInt8)]).length = s.length + 1 + ([] : List UInt8).length by simp]
  rw [scanT_app t s.length s s.length (Nat.le_refl _) (Nat.le_refl _), show s ++ [(10 : UInt8)] = s ++ 10 :: [] from rfl, scanT_app [] s.length s s.length (Nat.le_refl _) (Nat.le_refl _)]
  cases hs : scanT s.length s with
  | bad a e => rfl
  | ok L =>
    rw [scanT_nil _ [] rfl]
    simp only [Scan.app, List.append_nil]
    rw [show s.length + 1 + t.length = t.length + (s.length + 1) by omega, scanT_shift (s.length + 1) t.length t t.length (Nat.le_refl _) (Nat.le_refl _)]
/-- The first one's fault stands in it. -/
theorem scanL_end (s : List UInt8) (h : s.length + 1 ≤ 65536) (a e : Nat) (hb : scanL (s ++ [10]) = .bad a e) : a ≤ s.length := by
  have := scanL_within (s ++ [10]) (by simp; omega)
  rw [hb] at this
  have := this.2
  simp at this
  omega
end Go.Proofs.YtdfjhhhbkgelaaaGreatDoor.V
