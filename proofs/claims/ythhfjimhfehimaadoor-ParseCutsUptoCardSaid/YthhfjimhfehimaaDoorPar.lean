/- The document's programs of tokens, with no program in sight. -/
import Derived.Test.YthhfjimhfehimaaDoorTok
import Derived.Test.YthhfjimhfehimaaDoorPlain
namespace Go.Proofs.YthhfjimhfehimaaDoor.V
set_option linter.unusedVariables false
set_option linter.unusedSimpArgs false

structure TermL where
  v : Bool
  x : List UInt8
  s : Bool
  t : List UInt8
  n : Int
structure AtomL where
  p : List UInt8
  a : List TermL
structure LitL where
  k : Nat
  a : AtomL
  o : List UInt8
  l : TermL
  r : TermL
structure RuleL where
  h : AtomL
  b : List LitL
structure DeclL where
  p : List UInt8
  n : Int
def term0 : TermL := ⟨false, [], false, [], 0⟩
def atom0 : AtomL := ⟨[], []⟩

abbrev TP := Tok × Nat
def eofT (N : Nat) : TP := (⟨0, [], 0, false⟩, N)
/-- A token, so many behind the next one. -/
def pk (N : Nat) (r : List TP) (i : Nat) : TP := r[i]?.getD (eofT N)
def isM (N : Nat) (r : List TP) (i : Nat) (m : List UInt8) : Bool := (pk N r i).1.k == 4 && (pk N r i).1.s == m
def opL (m : List UInt8) : Bool := m == [61] || m == [33, 61] || m == [60] || m == [60, 61] || m == [62] || m == [62, 61]
def isO (N : Nat) (r : List TP) (i : Nat) : Bool := (pk N r i).1.k == 4 && opL (pk N r i).1.s
def notL : List UInt8 := [110, 111, 116]

inductive Par (α : Type) where
  | bad (at_ : Nat) (e : Nat)
  | ok (x : α) (r : List TP)

def nameP (N : Nat) (r : List TP) : Par (List UInt8) :=
  if (pk N r 0).1.k == 1 && !(pk N r 0).1.q && plainL (pk N r 0).1.s then .ok (pk N r 0).1.s r.tail else .bad (pk N r 0).2 2

def termP (N : Nat) (r : List TP) : Par TermL :=
  if (pk N r 0).1.k == 2 then .ok ⟨true, (pk N r 0).1.s, false, [], 0⟩ r.tail
  else if (pk N r 0).1.k == 3 then .ok ⟨false, [], false, [], (pk N r 0).1.n⟩ r.tail
  else if (pk N r 0).1.k == 1 && ((pk N r 0).1.q || !((pk N r 0).1.s == notL)) then .ok ⟨false, [], true, (pk N r 0).1.s, 0⟩ r.tail
  else .bad (pk N r 0).2 2

def someP {α : Type} (one : List TP → Par α) (N : Nat) : Nat → List TP → Par (List α)
  | 0, r => .bad (pk N r 0).2 4
  | m + 1, r => match one r with
    | .bad a e => .bad a e
    | .ok x r1 => if isM N r1 0 [44] then (match someP one N m r1.tail with
        | .bad a e => .bad a e
        | .ok xs r2 => .ok (x :: xs) r2)
      else .ok [x] r1

def markP {α : Type} (N : Nat) (m : List UInt8) (x : α) (r : List TP) : Par α := if isM N r 0 m then .ok x r.tail else .bad (pk N r 0).2 2

def atomP (N : Nat) (r : List TP) : Par AtomL := match nameP N r with
  | .bad a e => .bad a e
  | .ok p r1 => if isM N r1 0 [40] then (match someP (termP N) N 6 r1.tail with
      | .bad a e => .bad a e
      | .ok l r2 => markP N [41] ⟨p, l⟩ r2)
    else .ok ⟨p, []⟩ r1

def litP (N : Nat) (r : List TP) : Par LitL :=
  if (pk N r 0).1.k == 1 && !(pk N r 0).1.q && (pk N r 0).1.s == notL then (match atomP N r.tail with
    | .bad a e => .bad a e
    | .ok a r1 => .ok ⟨2, a, [], term0, term0⟩ r1)
  else if (pk N r 0).1.k == 1 && !(pk N r 0).1.q && !isO N r 1 then (match atomP N r with
    | .bad a e => .bad a e
    | .ok a r1 => .ok ⟨1, a, [], term0, term0⟩ r1)
  else match termP N r with
    | .bad a e => .bad a e
    | .ok l r1 => if isO N r1 0 then (match termP N r1.tail with
        | .bad a e => .bad a e
        | .ok u r2 => .ok ⟨3, atom0, (pk N r1 0).1.s, l, u⟩ r2)
      else .bad (pk N r1 0).2 2

def arityP (N : Nat) (r : List TP) : Par Int :=
  if (pk N r 0).1.k == 3 then (if decide ((pk N r 0).1.n < 0) || decide (6 < (pk N r 0).1.n) then .bad (pk N r 0).2 4 else .ok (pk N r 0).1.n r.tail)
  else .bad (pk N r 0).2 2

def declP (N : Nat) (r : List TP) : Par DeclL := match nameP N r with
  | .bad a e => .bad a e
  | .ok p r1 => match arityP N r1.tail with
    | .bad a e => .bad a e
    | .ok n r2 => markP N [46] ⟨p, n⟩ r2

def ruleP (N : Nat) (r : List TP) : Par RuleL := match atomP N r with
  | .bad a e => .bad a e
  | .ok h r1 => if isM N r1 0 [58, 45] then (match someP (litP N) N 8 r1.tail with
      | .bad a e => .bad a e
      | .ok b r2 => markP N [46] ⟨h, b⟩ r2)
    else markP N [46] ⟨h, []⟩ r1

/-- The clauses of what is left. -/
def progF (N : Nat) : Nat → List DeclL → List RuleL → List TP → Par (List DeclL × List RuleL)
  | 0, ds, rs, _ => .ok (ds, rs) []
  | f + 1, ds, rs, [] => .ok (ds, rs) []
  | f + 1, ds, rs, x :: r =>
    if isM N (x :: r) 1 [47] then
      if ds.length == 400 then .bad x.2 4
      else match declP N (x :: r) with
        | .bad a e => .bad a e
        | .ok d r1 => progF N f (ds ++ [d]) rs r1
    else
      if rs.length == 400 then .bad x.2 4
      else match ruleP N (x :: r) with
        | .bad a e => .bad a e
        | .ok c r1 => progF N f ds (rs ++ [c]) r1

inductive Got1 (α : Type) where
  | bad (at_ : Nat) (e : Nat)
  | ok (x : α)

/-- A text's program; a text's atom. -/
def parseL (s : List UInt8) : Got1 (List DeclL × List RuleL) := match scanL s with
  | .bad a e => .bad a e
  | .ok l => match progF s.length (l.length + 1) [] [] l with
    | .bad a e => .bad a e
    | .ok g _ => .ok g
def atomL (s : List UInt8) : Got1 AtomL := match scanL s with
  | .bad a e => .bad a e
  | .ok l => match atomP s.length l with
    | .bad a e => .bad a e
    | .ok x [] => .ok x
    | .ok x (t :: _) => .bad t.2 2

theorem pk_nil (N i : Nat) : pk N [] i = eofT N := rfl
theorem tail_lt {N : Nat} {r : List TP} (h : (pk N r 0).1.k ≠ 0) : r.tail.length < r.length := by
  cases r with
  | nil => exact absurd rfl h
  | cons x t => simp
theorem nameP_lt {N : Nat} {r r1 : List TP} {p : List UInt8} (h : nameP N r = .ok p r1) : r1.length < r.length := by
  unfold nameP at h
  split at h
  · rename_i hc
    simp only [Par.ok.injEq] at h
    rw [← h.2]
    exact tail_lt (N := N) (by simp_all)
  · simp at h
theorem termP_lt {N : Nat} {r r1 : List TP} {p : TermL} (h : termP N r = .ok p r1) : r1.length < r.length := by
  unfold termP at h
  repeat' split at h
  all_goals first
    | (simp at h; done)
    | (simp only [Par.ok.injEq] at h
       rw [← h.2]
       exact tail_lt (N := N) (by simp_all))
theorem markP_le {α : Type} {N : Nat} {m : List UInt8} {x y : α} {r r1 : List TP} (h : markP N m x r = .ok y r1) : r1.length ≤ r.length := by
  unfold markP at h
  split at h
  · simp only [Par.ok.injEq] at h
    rw [← h.2]
    simp
  · simp at h
theorem someP_le {α : Type} {one : List TP → Par α} {N : Nat} (ho : ∀ r x r1, one r = .ok x r1 → r1.length < r.length) :
    ∀ (m : Nat) (r : List TP) (xs : List α) (r1 : List TP), someP one N m r = .ok xs r1 → r1.length < r.length := by
  intro m
  induction m with
  | zero => intro r xs r1 h; simp [someP] at h
  | succ m ih =>
    intro r xs r1 h
    unfold someP at h
    split at h
    · simp at h
    · rename_i x r2 h2
      have h2' := ho _ _ _ h2
      split at h
      · split at h
        · simp at h
        · rename_i ys r3 h3
          have := ih _ _ _ h3
          simp only [Par.ok.injEq] at h
          rw [← h.2]
          simp at this
          omega
      · simp only [Par.ok.injEq] at h
        rw [← h.2]
        exact h2'
theorem atomP_lt {N : Nat} {r r1 : List TP} {p : AtomL} (h : atomP N r = .ok p r1) : r1.length < r.length := by
  unfold atomP at h
  split at h
  · simp at h
  · rename_i n r2 h2
    have h2' := nameP_lt h2
    split at h
    · split at h
      · simp at h
      · rename_i l r3 h3
        have h3' := someP_le (fun _ _ _ => termP_lt) _ _ _ _ h3
        have := markP_le h
        simp at h3'
        omega
    · simp only [Par.ok.injEq] at h
      rw [← h.2]
      exact h2'
theorem litP_lt {N : Nat} {r r1 : List TP} {p : LitL} (h : litP N r = .ok p r1) : r1.length < r.length := by
  unfold litP at h
  split at h
  · split at h
    · simp at h
    · rename_i a r2 h2
      have := atomP_lt h2
      simp only [Par.ok.injEq] at h
      rw [← h.2]
      simp at this
      omega
  · split at h
    · split at h
      · simp at h
      · rename_i a r2 h2
        have := atomP_lt h2
        simp only [Par.ok.injEq] at h
        rw [← h.2]
        exact this
    · split at h
      · simp at h
      · rename_i a r2 h2
        have h2' := termP_lt h2
        split at h
        · split at h
          · simp at h
          · rename_i u r3 h3
            have h3' := termP_lt h3
            simp only [Par.ok.injEq] at h
            rw [← h.2]
            simp at h3'
            omega
        · simp at h
theorem arityP_lt {N : Nat} {r r1 : List TP} {p : Int} (h : arityP N r = .ok p r1) : r1.length < r.length := by
  unfold arityP at h
  repeat' split at h
  all_goals first
    | (simp at h; done)
    | (simp only [Par.ok.injEq] at h
       rw [← h.2]
       exact tail_lt (N := N) (by simp_all))
theorem declP_lt {N : Nat} {r r1 : List TP} {p : DeclL} (h : declP N r = .ok p r1) : r1.length < r.length := by
  unfold declP at h
  split at h
  · simp at h
  · rename_i n r2 h2
    have h2' := nameP_lt h2
    split at h
    · simp at h
    · rename_i l r3 h3
      have h3' := arityP_lt h3
      have := markP_le h
      simp at h3'
      omega
theorem ruleP_lt {N : Nat} {r r1 : List TP} {p : RuleL} (h : ruleP N r = .ok p r1) : r1.length < r.length := by
  unfold ruleP at h
  split at h
  · simp at h
  · rename_i n r2 h2
    have h2' := atomP_lt h2
    split at h
    · split at h
      · simp at h
      · rename_i l r3 h3
        have h3' := someP_le (fun _ _ _ => litP_lt) _ _ _ _ h3
        have := markP_le h
        simp at h3'
        omega
    · have := markP_le h
      omega
theorem progF_more (N f : Nat) : ∀ (g : Nat) (ds : List DeclL) (rs : List RuleL) (r : List TP), r.length < f → r.length < g → progF N f ds rs r = progF N g ds rs r := by
  induction f with
  | zero => intro g ds rs r h; omega
  | succ f ih =>
    intro g ds rs r h1 h2
    match g, h2 with
    | g + 1, h2 =>
      match r with
      | [] => rfl
      | x :: r =>
        unfold progF
        split
        · split
          · rfl
          · split
            · rfl
            · rename_i d r1 hd
              have := declP_lt hd
              exact ih g _ _ _ (by omega) (by omega)
        · split
          · rfl
          · split
            · rfl
            · rename_i d r1 hd
              have := ruleP_lt hd
              exact ih g _ _ _ (by omega) (by omega)
/-- The clauses of what is left, of whatever length. -/
def progT (N : Nat) (ds : List DeclL) (rs : List RuleL) (r : List TP) : Par (List DeclL × List RuleL) := progF N (r.length + 1) ds rs r
theorem progT_nil (N : Nat) (ds : List DeclL) (rs : List RuleL) : progT N ds rs [] = .ok (ds, rs) [] := rfl
theorem progT_cons (N : Nat) (ds : List DeclL) (rs : List RuleL) (x : TP) (r : List TP) : progT N ds rs (x :: r) =
    if isM N (x :: r) 1 [47] then
      if ds.length == 400 then .bad x.2 4
      else match declP N (x :: r) with
        | .bad a e => .bad a e
        | .ok d r1 => progT N (ds ++ [d]) rs r1
    else
      if rs.length == 400 then .bad x.2 4
      else match ruleP N (x :: r) with
        | .bad a e => .bad a e
        | .ok c r1 => progT N ds (rs ++ [c]) r1 := by
  unfold progT
  rw [progF]
  split
  · split
    · rfl
    · split
      · rfl
      · rename_i d r1 hd
        have := declP_lt hd
        exact progF_more N _ _ _ _ _ (by simp at this ⊢; omega) (by omega)
  · split
    · rfl
    · split
      · rfl
      · rename_i d r1 hd
        have := ruleP_lt hd
        exact progF_more N _ _ _ _ _ (by simp at this ⊢; omega) (by omega)
end Go.Proofs.YthhfjimhfehimaaDoor.V
