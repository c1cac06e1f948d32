/- The tokens of a text, in lists of bytes, with no program in sight. -/
import Derived.Lib.ParseIntB
import Derived.Lib.Hide
namespace Go.Proofs.YtdfjhhhbkgelaaaGreatDoor.V
set_option linter.unusedVariables false
set_option linter.unusedSimpArgs false

def blankI (c : Int) : Bool := c == 9 || c == 10 || c == 13 || c == 32
def sml (c : Int) : Bool := decide (97 ≤ c) && decide (c ≤ 122)
def bgI (c : Int) : Bool := decide (65 ≤ c) && decide (c ≤ 90)
def figI (c : Int) : Bool := decide (48 ≤ c) && decide (c ≤ 57)
def wrdI (c : Int) : Bool := sml c || bgI c || figI c || c == 95
def lineI (c : Int) : Bool := !(c == 10)
def gapI (c : Int) : Bool := blankI c || c == 37
/-- Of a byte. -/
def ofB (P : Int → Bool) (b : UInt8) : Bool := P (b.toNat : Int)

structure Tok where
  k : Nat
  s : List UInt8
  n : Int
  q : Bool

inductive Got where
  | bad (e : Nat)
  | tok (t : Tok) (r : List UInt8)

/-- Behind blanks and remarks; within a remark or not. -/
def skipR : Bool → List UInt8 → List UInt8
  | _, [] => []
  | m, c :: t => if !(m || c == 37) && !ofB blankI c then c :: t else skipR ((m || c == 37) && !(c == 10)) t

/-- Behind a mark: the name's bytes, and what is left. -/
def quotL : List UInt8 → Option (List UInt8 × List UInt8)
  | [] => none
  | [c] => if c == 39 then some ([], []) else none
  | c :: d :: u =>
    if c == 39 then some ([], d :: u) else
    if c == 10 then none else
    if c == 92 then
      if d == 110 || d == 39 || d == 92 then (quotL u).map fun p => ((if d == 110 then 10 else d) :: p.1, p.2) else none
    else (quotL (d :: u)).map fun p => (c :: p.1, p.2)

def qres : Option (List UInt8 × List UInt8) → Got
  | some p => .tok ⟨1, p.1, 0, true⟩ p.2
  | none => .bad 2

def namedL (k : Nat) (l : List UInt8) : Got :=
  if 32 < (l.takeWhile (ofB wrdI)).length then .bad 4 else .tok ⟨k, l.takeWhile (ofB wrdI), 0, false⟩ (l.dropWhile (ofB wrdI))

def numL (c : UInt8) (t : List UInt8) : Got :=
  match Lib.parseIntB 64 (c :: t.takeWhile (ofB figI)) with
  | .ok v => .tok ⟨3, [], v, false⟩ (t.dropWhile (ofB figI))
  | _ => .bad 3

def markTwo (l : List UInt8) : Bool := List.isPrefixOf [58, 45] l || List.isPrefixOf [60, 61] l || List.isPrefixOf [62, 61] l || List.isPrefixOf [33, 61] l
def markOne (c : UInt8) : Bool := c == 40 || c == 41 || c == 44 || c == 46 || c == 47 || c == 60 || c == 62 || c == 61
def markL (l : List UInt8) : Got :=
  if markTwo l then .tok ⟨4, l.take 2, 0, false⟩ (l.drop 2)
  else if markOne (l.headD 0) then .tok ⟨4, l.take 1, 0, false⟩ (l.drop 1)
  else .bad 2

/-- The token at a text's head. -/
def oneL (c : UInt8) (t : List UInt8) : Got :=
  if ofB sml c then namedL 1 (c :: t)
  else if ofB bgI c then namedL 2 (c :: t)
  else if ofB figI c || (c == 45 && !t.isEmpty && ofB figI (t.headD 0)) then numL c t
  else if c == 39 then qres (quotL t)
  else markL (c :: t)

abbrev TP' := Tok × Nat
inductive Scan where
  | bad (at_ : Nat) (e : Nat)
  | ok (l : List (Tok × Nat))

def Scan.cons (x : Tok × Nat) : Scan → Scan
  | .bad a e => .bad a e
  | .ok l => .ok (x :: l)
def Scan.app (xs : List (Tok × Nat)) : Scan → Scan
  | .bad a e => .bad a e
  | .ok l => .ok (xs ++ l)

/-- The tokens of what is left of a text of N bytes. -/
def scanF : Nat → Nat → List UInt8 → Scan
  | 0, _, _ => .ok []
  | f + 1, N, l => match skipR false l with
    | [] => .ok []
    | c :: t => match oneL c t with
      | .bad e => .bad (N - (c :: t).length) e
      | .tok k r => (scanF f N r).cons (k, N - (c :: t).length)

def scanL (s : List UInt8) : Scan := if 65536 < s.length then .bad 0 4 else scanF (s.length + 1) s.length s

theorem length_takeDrop (P : UInt8 → Bool) (l : List UInt8) : (l.takeWhile P).length + (l.dropWhile P).length = l.length := by
  rw [← List.length_append, List.takeWhile_append_dropWhile]

theorem skipR_le (l : List UInt8) : ∀ m, (skipR m l).length ≤ l.length := by
  induction l with
  | nil => intro m; simp [skipR]
  | cons c t ih =>
    intro m
    unfold skipR
    split
    · exact Nat.le_refl _
    · exact Nat.le_succ_of_le (ih _)

theorem quotL_lt : ∀ (n : Nat) (l : List UInt8), l.length ≤ n → ∀ b r, quotL l = some (b, r) → r.length < l.length := by
  intro n
  induction n with
  | zero =>
    intro l hl b r h
    match l, hl with
    | [], _ => simp [quotL] at h
  | succ n ih =>
    intro l hl b r h
    match l with
    | [] => simp [quotL] at h
    | [c] =>
      unfold quotL at h
      split at h
      · simp at h; rw [← h.2]; simp
      · simp at h
    | c :: d :: u =>
      unfold quotL at h
      split at h
      · simp at h; rw [← h.2]; simp
      · split at h
        · simp at h
        · split at h
          · split at h
            · simp only [Option.map_eq_some_iff] at h
              obtain ⟨p, hp, he⟩ := h
              have := ih u (by simp at hl; omega) p.1 p.2 hp
              simp at he
              rw [← he.2]; simp; omega
            · simp at h
          · simp only [Option.map_eq_some_iff] at h
            obtain ⟨p, hp, he⟩ := h
            have := ih (d :: u) (by simp at hl ⊢; omega) p.1 p.2 hp
            simp at he this
            rw [← he.2]; simp; omega

theorem oneL_lt (c : UInt8) (t : List UInt8) (k : Tok) (r : List UInt8) (h : oneL c t = .tok k r) : r.length < (c :: t).length := by
  have hn : ∀ kk, (namedL kk (c :: t) = .tok k r) → ofB wrdI c = true → r.length < (c :: t).length := by
    intro kk h hc
    unfold namedL at h
    split at h
    · simp at h
    · simp only [Got.tok.injEq] at h
      rw [← h.2]
      have := length_takeDrop (ofB wrdI) (c :: t)
      rw [List.takeWhile_cons_of_pos hc] at this
      simp at this ⊢
      omega
  unfold oneL at h
  split at h
  · exact hn 1 h (by simp_all [ofB, wrdI])
  · split at h
    · exact hn 2 h (by simp_all [ofB, wrdI])
    · split at h
      · unfold numL at h
        split at h
        · simp only [Got.tok.injEq] at h
          rw [← h.2]
          have := length_takeDrop (ofB figI) t
          simp
          omega
        · simp at h
      · split at h
        · unfold qres at h
          split at h
          · rename_i p hp
            simp only [Got.tok.injEq] at h
            have := quotL_lt _ t (Nat.le_refl _) p.1 p.2 hp
            rw [← h.2]; simp; omega
          · simp at h
        · unfold markL at h
          split at h
          · simp only [Got.tok.injEq] at h
            rw [← h.2]; simp; omega
          · split at h
            · simp only [Got.tok.injEq] at h
              rw [← h.2]; simp
            · simp at h

/-- More rounds than bytes are as good as any. -/
theorem scanF_more (f : Nat) : ∀ (g N : Nat) (l : List UInt8), l.length < f → l.length < g → scanF f N l = scanF g N l := by
  induction f with
  | zero => intro g N l h; omega
  | succ f ih =>
    intro g N l h1 h2
    match g, h2 with
    | g + 1, h2 =>
      unfold scanF
      have hs := skipR_le l false
      split
      · rfl
      · rename_i c t he
        rw [he] at hs
        split
        · rfl
        · rename_i k r ho
          have := oneL_lt c t k r ho
          rw [ih g N r (by omega) (by omega)]

/-- One step. -/
def scanT (N : Nat) (l : List UInt8) : Scan := scanF (l.length + 1) N l
theorem scanT_nil (N : Nat) (l : List UInt8) (h : skipR false l = []) : scanT N l = .ok [] := by
  unfold scanT scanF
  rw [h]
theorem scanT_bad (N : Nat) (l : List UInt8) (c : UInt8) (t : List UInt8) (e : Nat) (h : skipR false l = c :: t) (ho : oneL c t = .bad e) : scanT N l = .bad (N - (c :: t).length) e := by
  unfold scanT scanF
  rw [h]
  simp only [ho]
theorem scanT_tok (N : Nat) (l : List UInt8) (c : UInt8) (t : List UInt8) (k : Tok) (r : List UInt8) (h : skipR false l = c :: t) (ho : oneL c t = .tok k r) : scanT N l = (scanT N r).cons (k, N - (c :: t).length) := by
  have hs := skipR_le l false
  have := oneL_lt c t k r ho
  rw [h] at hs
  unfold scanT
  rw [scanF]
  rw [h]
  simp only [ho]
  rw [scanF_more l.length (r.length + 1) N r (by omega) (by omega)]
theorem scanT_skip (N : Nat) (l : List UInt8) : scanT N (skipR false l) = scanT N l := by
  have hs : ∀ (l : List UInt8) (m : Bool), skipR false (skipR m l) = skipR m l := by
    intro l
    induction l with
    | nil => intro m; simp [skipR]
    | cons c t ih =>
      intro m
      rw [skipR]
      split
      · rename_i h
        unfold skipR
        rw [if_pos]
        simp_all
      · exact ih _
  cases h : skipR false l with
  | nil => rw [scanT_nil N l h, scanT_nil N [] rfl]
  | cons c t =>
    have h2 : skipR false (c :: t) = c :: t := by rw [← h]; exact hs l false
    cases ho : oneL c t with
    | bad e => rw [scanT_bad N l c t e h ho, scanT_bad N (c :: t) c t e h2 ho]
    | tok k r => rw [scanT_tok N l c t k r h ho, scanT_tok N (c :: t) c t k r h2 ho]
theorem app_cons (xs : List (Tok × Nat)) (x : Tok × Nat) (s : Scan) : Scan.app xs (s.cons x) = Scan.app (xs ++ [x]) s := by
  cases s <;> simp [Scan.app, Scan.cons]
end Go.Proofs.YtdfjhhhbkgelaaaGreatDoor.V
