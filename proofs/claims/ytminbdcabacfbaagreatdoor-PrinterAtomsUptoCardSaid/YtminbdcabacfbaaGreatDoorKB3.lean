/- Programs as texts, and those texts' programs: with no program in sight. A program that may be, printed, is parsed as it was: with no program in sight. The printed tokens, parsed: with no program in sight. value.Int. (*text).mark: a mark of one byte, or of two. One thing is appended to a row that the call owns. (*text).quoted: a name in marks. -/
import Derived.Laws.AppendOwn
import Derived.OwnWalk
import Derived.Maps.AppendAt
import Derived.Lib.Walk
import Derived.Lib.SlBytesRow
import Derived.Lib.BufferRead
import Derived.Test.YtminbdcabacfbaaGreatDoorKB2
namespace Go.Proofs.YtminbdcabacfbaaGreatDoor.V
set_option linter.unusedVariables false
set_option linter.unusedSimpArgs false

def termT (t : TermL) : List UInt8 := if t.v then t.x else textL t.s t.t t.n
/-- Texts with something between. -/
def sepT (m : List UInt8) : List (List UInt8) → List UInt8
  | [] => []
  | [x] => x
  | x :: y :: r => x ++ m ++ sepT m (y :: r)
def cmaT : List UInt8 := [44, 32]
def atomT (a : AtomL) : List UInt8 := if a.a = [] then a.p else a.p ++ [40] ++ sepT cmaT (a.a.map termT) ++ [41]
def litT (l : LitL) : List UInt8 :=
  if l.k = 1 then atomT l.a else if l.k = 2 then [110, 111, 116, 32] ++ atomT l.a
  else if l.k = 3 then termT l.l ++ [32] ++ l.o ++ [32] ++ termT l.r else []
def ruleT (r : RuleL) : List UInt8 := if r.b = [] then atomT r.h ++ [46] else atomT r.h ++ [32, 58, 45, 32] ++ sepT cmaT (r.b.map litT) ++ [46]
def declT (d : DeclL) : List UInt8 := d.p ++ [47] ++ Lib.itoa d.n ++ [46]
def prgT (ds : List DeclL) (rs : List RuleL) : List UInt8 := (ds.flatMap fun d => declT d ++ [10]) ++ (rs.flatMap fun r => ruleT r ++ [10])

def isTerm0 (t : TermL) : Bool := !t.v && t.x.isEmpty && !t.s && t.t.isEmpty && t.n == 0
def varL (x : List UInt8) : Bool := match x with
  | [] => false
  | c :: r => decide ((c :: r).length ≤ 32) && ofB bgI c && r.all (ofB wrdI)
def mayT (t : TermL) : Bool :=
  if t.v then varL t.x && !t.s && t.t.isEmpty && t.n == 0
  else t.x.isEmpty && (if t.s then t.n == 0 else t.t.isEmpty)
def nameL (p : List UInt8) : Bool := plainL p && decide (p.length ≤ 32)
def mayA (a : AtomL) : Bool := nameL a.p && decide (a.a.length ≤ 6) && a.a.all mayT
def mayL (l : LitL) : Bool :=
  if l.k = 3 then opL l.o && mayT l.l && mayT l.r && l.a.p.isEmpty && l.a.a.isEmpty
  else (l.k == 1 || l.k == 2) && l.o.isEmpty && isTerm0 l.l && isTerm0 l.r && mayA l.a
def mayR (r : RuleL) : Bool := mayA r.h && decide (r.b.length ≤ 8) && r.b.all mayL
def mayD (d : DeclL) : Bool := nameL d.p && decide (0 ≤ d.n) && decide (d.n ≤ 6)
def mayP (ds : List DeclL) (rs : List RuleL) : Bool := decide (ds.length ≤ 400) && decide (rs.length ≤ 400) && ds.all mayD && rs.all mayR
/-- A number that a value may hold. -/
def fitT (t : TermL) : Prop := -9223372036854775808 ≤ t.n ∧ t.n < 9223372036854775808

abbrev Laid := List (Tok × List UInt8)
def laidT (L : Laid) : List UInt8 := L.flatMap fun p => p.1.told ++ p.2
def mk (m : List UInt8) : Tok := ⟨4, m, 0, false⟩
def termK (t : TermL) : Tok :=
  if t.v then ⟨2, t.x, 0, false⟩ else if t.s then (if plainL t.t = true ∧ t.t.length ≤ 32 then ⟨1, t.t, 0, false⟩ else ⟨1, t.t, 0, true⟩) else ⟨3, [], t.n, false⟩
/-- Things with commas between. -/
def sepK {α : Type} (one : α → Laid) : List α → Laid
  | [] => []
  | [x] => one x
  | x :: y :: r => one x ++ (mk [44], [32]) :: sepK one (y :: r)
def nameK (p : List UInt8) : Tok := ⟨1, p, 0, false⟩
def oneK (t : TermL) : Laid := [(termK t, [])]
def atomK (a : AtomL) : Laid := if a.a = [] then [(nameK a.p, [])] else (nameK a.p, []) :: (mk [40], []) :: (sepK oneK a.a ++ [(mk [41], [])])
/-- The last token has this behind it, too. -/
def endK (m : List UInt8) : Laid → Laid
  | [] => []
  | [p] => [(p.1, p.2 ++ m)]
  | p :: q :: r => p :: endK m (q :: r)
def litK (l : LitL) : Laid :=
  if l.k = 1 then atomK l.a else if l.k = 2 then (nameK notL, [32]) :: atomK l.a
  else (termK l.l, [32]) :: (mk l.o, [32]) :: oneK l.r
def ruleK (r : RuleL) : Laid := if r.b = [] then atomK r.h ++ [(mk [46], [10])] else endK [32] (atomK r.h) ++ (mk [58, 45], [32]) :: (sepK litK r.b ++ [(mk [46], [10])])
def declK (d : DeclL) : Laid := [(nameK d.p, []), (mk [47], []), (⟨3, [], d.n, false⟩, []), (mk [46], [10])]
def progK (ds : List DeclL) (rs : List RuleL) : Laid := ds.flatMap declK ++ rs.flatMap ruleK

def stopC (c : UInt8) : Bool := c == 32 || c == 10 || c == 40 || c == 41 || c == 44 || c == 46 || c == 47
def stopL : List UInt8 → Bool
  | [] => true
  | c :: _ => stopC c
def freeK (t : Tok) : Bool := t.q || (t.k == 4 && (t.s == [40] || t.s == [41] || t.s == [44] || t.s == [46] || t.s == [47] || t.s == [58, 45]))
def After (t : Tok) (r : List UInt8) : Prop := freeK t = true ∨ stopL r = true

theorem take_self {P : UInt8 → Bool} {l : List UInt8} (h : ∀ c ∈ l, P c = true) : l.takeWhile P = l ∧ l.dropWhile P = [] := by
  induction l with
  | nil => simp
  | cons c u ih =>
    have hc := h c (List.mem_cons_self ..)
    have h2 := ih fun x hx => h x (List.mem_cons_of_mem _ hx)
    simp [hc, h2.1, h2.2]
theorem take_all2 (P : UInt8 → Bool) (l : List UInt8) (h : ∀ c ∈ l, P c = true) (r : List UInt8) (hr : ∀ c u, r = c :: u → P c = false) : (l ++ r).takeWhile P = l ∧ (l ++ r).dropWhile P = r := by
  cases r with
  | nil =>
    rw [List.append_nil]
    exact take_self h
  | cons d u => exact take_all P l h d u (hr d u rfl)
theorem stop_out {P : UInt8 → Bool} (hP : P 32 = false ∧ P 10 = false ∧ P 40 = false ∧ P 41 = false ∧ P 44 = false ∧ P 46 = false ∧ P 47 = false) {r : List UInt8} (h : stopL r = true) : ∀ c u, r = c :: u → P c = false := by
  rintro c u rfl
  simp only [stopL, stopC, Bool.or_eq_true, beq_iff_eq] at h
  rcases h with (((((rfl | rfl) | rfl) | rfl) | rfl) | rfl) | rfl <;> simp [hP]
theorem named_back2 (k : Nat) (s r : List UInt8) (hw : ∀ c ∈ s, ofB wrdI c = true) (hl : s.length ≤ 32) (hr : stopL r = true) : namedL k (s ++ r) = .tok ⟨k, s, 0, false⟩ r := by
  obtain ⟨a, b⟩ := take_all2 (ofB wrdI) s hw r (stop_out (by decide) hr)
  unfold namedL
  rw [a, b, if_neg (by omega)]
theorem num_low2 (u : Nat) (r : List UInt8) (hu : u ≤ 9223372036854775808) (hr : stopL r = true) : numL 45 (Lib.decDigits u ++ r) = .tok ⟨3, [], -(u : Int), false⟩ r := by
  obtain ⟨h1, h2, h3⟩ := digs u
  obtain ⟨a, b⟩ := take_all2 (ofB figI) _ h1 r (stop_out (by decide) hr)
  unfold numL
  rw [a, b, parseI_low _ h1 h2, h3, if_neg (by omega)]
theorem num_high2 (c : UInt8) (l : List UInt8) (u : Nat) (hc : Lib.decDigits u = c :: l) (r : List UInt8) (hu : u < 9223372036854775808) (hr : stopL r = true) : numL c (l ++ r) = .tok ⟨3, [], (u : Int), false⟩ r := by
  obtain ⟨h1, h2, h3⟩ := digs u
  rw [hc] at h1 h3
  obtain ⟨a, b⟩ := take_all2 (ofB figI) l (fun x hx => h1 x (List.mem_cons_of_mem _ hx)) r (stop_out (by decide) hr)
  unfold numL
  rw [a, b, parseI_high c l h1, h3, if_neg (by omega)]
theorem told_back2 (t : Tok) (h : TokFit t) (r : List UInt8) (ha : After t r) : ∃ c u, t.told = c :: u ∧ solid c ∧ oneL c (u ++ r) = .tok t r := by
  obtain ⟨k, s, n, q⟩ := t
  unfold Tok.told
  rcases h with ⟨h1, h2, h3⟩ | ⟨h1, h2, h3, ⟨c, u, h4, h5⟩, h6, h7⟩ | ⟨h1, h2, h3, ⟨c, u, h4, h5⟩, h6, h7⟩ | ⟨h1, h2, h3, h4, h5⟩ | ⟨h1, h2, h3, h4⟩ <;> dsimp only at * <;> subst h1 <;> try subst h2
  · subst h3
    refine ⟨39, escL s ++ [39], by rw [show ((1 : Nat) : Int) = 1 from rfl]; exact told_quoted s 0, by decide, ?_⟩
    rw [oneL, if_neg (by decide), if_neg (by decide), if_neg (by simp [ofB, figI]), if_pos (by decide), List.append_assoc, List.singleton_append, quotL_esc]
    rfl
  · subst h3
    have hr : stopL r = true := by
      rcases ha with ha | ha
      · simp [freeK] at ha
      · exact ha
    refine ⟨c, u, ?_, ?_, ?_⟩
    · rw [← h4]
      exact told_name s 0 ⟨c, u, h4, h5⟩ h6
    · simp only [solid, ofB, gapI, blankI, sml] at *
      simp at *
      omega
    · rw [oneL, if_pos h5, ← List.cons_append, ← h4]
      exact named_back2 1 s r h6 h7 hr
  · subst h3
    have hr : stopL r = true := by
      rcases ha with ha | ha
      · simp [freeK] at ha
      · exact ha
    have hns : ofB sml c = false := by
      simp only [ofB, bgI, sml] at *
      simp at *
      omega
    refine ⟨c, u, ?_, ?_, ?_⟩
    · rw [← h4]
      unfold toldL
      rw [if_neg (by simp), if_neg (by simp), if_neg (by simp), if_neg (by simp)]
    · simp only [solid, ofB, gapI, blankI, bgI] at *
      simp at *
      omega
    · rw [oneL, if_neg (by simp [hns]), if_pos h5, ← List.cons_append, ← h4]
      exact named_back2 2 s r h6 h7 hr
  · subst h3
    have hr : stopL r = true := by
      rcases ha with ha | ha
      · simp [freeK] at ha
      · exact ha
    have ht : toldL ((3 : Nat) : Int) [] n false = Lib.itoa n := by
      unfold toldL
      rw [if_neg (by simp), if_neg (by simp), if_pos (by decide)]
    rw [ht]
    unfold Lib.itoa
    by_cases hn : n < 0
    · rw [if_pos hn]
      obtain ⟨a, b, c⟩ := digs n.natAbs
      refine ⟨45, _, rfl, by decide, ?_⟩
      have hh : ofB figI ((Lib.decDigits n.natAbs ++ r).headD 0) = true := by
        cases hd : Lib.decDigits n.natAbs with
        | nil => exact absurd hd b
        | cons x y => rw [hd] at a; exact a x (List.mem_cons_self ..)
      have he : (Lib.decDigits n.natAbs ++ r).isEmpty = false := by
        cases hd : Lib.decDigits n.natAbs with
        | nil => exact absurd hd b
        | cons x y => rfl
      rw [oneL, if_neg (by decide), if_neg (by decide), if_pos (by rw [hh, he]; decide), num_low2 _ _ (by omega) hr]
      simp only [Got.tok.injEq, Tok.mk.injEq, and_true, true_and]
      omega
    · rw [if_neg hn]
      obtain ⟨a, b, c⟩ := digs n.toNat
      cases hd : Lib.decDigits n.toNat with
      | nil => exact absurd hd b
      | cons x y =>
        rw [hd] at a
        have hx := a x (List.mem_cons_self ..)
        have hx2 := fig_of hx
        have hs1 : ofB sml x = false := by simp only [ofB, sml]; simp; omega
        have hs2 : ofB bgI x = false := by simp only [ofB, bgI]; simp; omega
        refine ⟨x, y, rfl, ?_, ?_⟩
        · simp only [solid, ofB, gapI, blankI] at *
          simp at *
          omega
        · rw [oneL, if_neg (by simp [hs1]), if_neg (by simp [hs2]), if_pos (by rw [hx]; rfl), num_high2 x y n.toNat hd r (by omega) hr]
          simp only [Got.tok.injEq, Tok.mk.injEq, and_true, true_and]
          omega
  · subst h3
    have ht : toldL ((4 : Nat) : Int) s 0 false = s := by
      unfold toldL
      rw [if_neg (by simp), if_neg (by simp), if_neg (by simp), if_neg (by simp)]
    rw [ht]
    rcases h4 with (rfl | rfl | rfl | rfl) | ⟨c, rfl, hc⟩
    · exact ⟨_, _, rfl, by decide, rfl⟩
    · exact ⟨_, _, rfl, by decide, rfl⟩
    · exact ⟨_, _, rfl, by decide, rfl⟩
    · exact ⟨_, _, rfl, by decide, rfl⟩
    · refine ⟨c, [], rfl, ?_⟩
      simp only [markOne, Bool.or_eq_true, beq_iff_eq] at hc
      have hst : stopL r = true → ∀ d u, r = d :: u → d ≠ 61 ∧ d ≠ 45 := by
        intro h d u e
        subst e
        simp only [stopL, stopC, Bool.or_eq_true, beq_iff_eq] at h
        rcases h with (((((rfl | rfl) | rfl) | rfl) | rfl) | rfl) | rfl <;> decide
      rcases hc with ((((((rfl | rfl) | rfl) | rfl) | rfl) | rfl) | rfl) | rfl
      · exact ⟨by decide, rfl⟩
      · exact ⟨by decide, rfl⟩
      · exact ⟨by decide, rfl⟩
      · exact ⟨by decide, rfl⟩
      · exact ⟨by decide, rfl⟩
      all_goals
        refine ⟨by decide, ?_⟩
        rcases ha with ha | ha
        · exact absurd ha (by decide)
        · cases r with
          | nil => rfl
          | cons d u =>
            have hd := (hst ha d u rfl).1
            have h1 : (61 == d) = false := by rw [beq_eq_false_iff_ne]; exact fun e => hd e.symm
            have hm : ∀ c : UInt8, markOne c = true → (58 == c) = false → (33 == c) = false → markL (c :: d :: u) = .tok ⟨4, [c], 0, false⟩ (d :: u) := by
              intro c h2 h3 h4
              unfold markL
              have : markTwo (c :: d :: u) = false := by simp [markTwo, List.isPrefixOf, h1, h3, h4]
              rw [if_neg (by rw [this]; simp), if_pos (by exact h2)]
              rfl
            first | exact hm 60 (by decide) (by decide) (by decide) | exact hm 61 (by decide) (by decide) (by decide) | exact hm 62 (by decide) (by decide) (by decide)

/-- Between laid tokens. -/
def LaidOk : Laid → List UInt8 → Prop
  | [], _ => True
  | p :: L, z => TokFit p.1 ∧ (∀ c ∈ p.2, c = 32 ∨ c = 10) ∧ After p.1 (p.2 ++ (laidT L ++ z)) ∧ LaidOk L z
theorem skip_blank2 {c : UInt8} (h : c = 32 ∨ c = 10) (u : List UInt8) : skipR false (c :: u) = skipR false u := by
  rcases h with rfl | rfl
  · exact skip_blank u
  · have h : ofB blankI 10 = true := by decide
    rw [skipR, h]
    simp
theorem skip_blanks {b : List UInt8} (h : ∀ c ∈ b, c = 32 ∨ c = 10) (u : List UInt8) : skipR false (b ++ u) = skipR false u := by
  induction b with
  | nil => rfl
  | cons c b ih =>
    rw [List.cons_append, skip_blank2 (h c (List.mem_cons_self ..)), ih fun x hx => h x (List.mem_cons_of_mem _ hx)]
theorem laid_back (N : Nat) : ∀ (L : Laid), LaidOk L [] → ∃ L', scanT N (laidT L) = .ok L' ∧ L'.map Prod.fst = L.map Prod.fst
  | [], _ => ⟨[], scanT_nil N _ rfl, rfl⟩
  | (t, b) :: L, h => by
    obtain ⟨h1, h2, h3, h4⟩ := h
    rw [List.append_nil] at h3
    obtain ⟨L', g1, g2⟩ := laid_back N L h4
    obtain ⟨c, u, e1, e2, e3⟩ := told_back2 t h1 _ h3
    have e : laidT ((t, b) :: L) = c :: (u ++ (b ++ laidT L)) := by
      show (t.told ++ b) ++ laidT L = _
      rw [show t.told = c :: u from e1, List.append_assoc]
      rfl
    rw [e]
    refine ⟨(t, N - (c :: (u ++ (b ++ laidT L))).length) :: L', ?_, by rw [List.map_cons, g2]; rfl⟩
    rw [scanT_tok N _ c _ t _ (skip_solid e2 _) e3, ← scanT_skip, skip_blanks h2, scanT_skip, g1]
    rfl
end Go.Proofs.YtminbdcabacfbaaGreatDoor.V

namespace Go.Proofs.YtminbdcabacfbaaGreatDoor.V
set_option linter.unusedVariables false
set_option linter.unusedSimpArgs false

theorem laidT_app (A B : Laid) : laidT (A ++ B) = laidT A ++ laidT B := by unfold laidT; rw [List.flatMap_append]
theorem laidT_cons (p : Tok × List UInt8) (B : Laid) : laidT (p :: B) = p.1.told ++ p.2 ++ laidT B := by unfold laidT; rw [List.flatMap_cons]
theorem laidT_nil : laidT [] = [] := rfl
theorem laidOk_app : ∀ {A B : Laid} {z : List UInt8}, LaidOk A (laidT B ++ z) → LaidOk B z → LaidOk (A ++ B) z
  | [], B, z, _, h => h
  | p :: A, B, z, ⟨h1, h2, h3, h4⟩, h => by
    refine ⟨h1, h2, ?_, laidOk_app h4 h⟩
    show After p.1 (p.2 ++ (laidT (A ++ B) ++ z))
    rw [laidT_app, List.append_assoc]
    exact h3
theorem told_mk (m : List UInt8) : (mk m).told = m := by
  show toldL ((4 : Nat) : Int) m 0 false = m
  unfold toldL
  rw [if_neg (by simp), if_neg (by simp), if_neg (by simp), if_neg (by simp)]
theorem mk_one {c : UInt8} (h : markOne c = true) : TokFit (mk [c]) := .inr (.inr (.inr (.inr ⟨rfl, rfl, rfl, .inr ⟨c, rfl, h⟩⟩)))
theorem plainL_sml {s : List UInt8} (h : plainL s = true) : (∃ c u, s = c :: u ∧ ofB sml c = true) ∧ (∀ c ∈ s, ofB wrdI c = true) ∧ s ≠ notL := by
  unfold plainL at h
  split at h
  · cases h
  · rename_i c t
    simp only [Bool.and_eq_true, List.all_eq_true, Bool.not_eq_true', beq_eq_false_iff_ne] at h
    refine ⟨⟨c, t, rfl, h.1.2⟩, ?_, h.1.1⟩
    intro x hx
    rcases List.mem_cons.1 hx with rfl | hx
    · have h2 : ofB sml x = true := h.1.2
      simp_all [ofB, wrdI]
    · rw [← wordI_of]
      exact h.2 x hx
theorem name_fit {p : List UInt8} (h : nameL p = true) : TokFit (nameK p) ∧ (nameK p).told = p := by
  unfold nameL at h
  simp only [Bool.and_eq_true, decide_eq_true_eq] at h
  obtain ⟨h1, h2, _⟩ := plainL_sml h.1
  exact ⟨.inr (.inl ⟨rfl, rfl, rfl, h1, h2, h.2⟩), told_name p 0 h1 h2⟩
theorem varL_fit {x : List UInt8} (h : varL x = true) : (∃ c u, x = c :: u ∧ ofB bgI c = true) ∧ (∀ c ∈ x, ofB wrdI c = true) ∧ x.length ≤ 32 := by
  unfold varL at h
  split at h
  · cases h
  · rename_i c r
    simp only [Bool.and_eq_true, decide_eq_true_eq, List.all_eq_true] at h
    refine ⟨⟨c, r, rfl, h.1.2⟩, ?_, h.1.1⟩
    intro y hy
    rcases List.mem_cons.1 hy with rfl | hy
    · simp_all [ofB, wrdI]
    · exact h.2 y hy
theorem term_fit {t : TermL} (h : mayT t = true) (hf : fitT t) : TokFit (termK t) ∧ (termK t).told = termT t := by
  unfold mayT at h
  unfold termK termT
  by_cases hv : t.v = true
  · rw [if_pos hv] at h ⊢
    rw [if_pos hv]
    simp only [Bool.and_eq_true] at h
    obtain ⟨h1, h2, h3⟩ := varL_fit h.1.1.1
    refine ⟨.inr (.inr (.inl ⟨rfl, rfl, rfl, h1, h2, h3⟩)), ?_⟩
    show toldL ((2 : Nat) : Int) t.x 0 false = t.x
    unfold toldL
    rw [if_neg (by simp), if_neg (by simp), if_neg (by simp), if_neg (by simp)]
  · rw [if_neg hv] at h ⊢
    rw [if_neg hv]
    by_cases hs : t.s = true
    · rw [if_pos hs, hs]
      by_cases hp : plainL t.t = true ∧ t.t.length ≤ 32
      · rw [if_pos hp]
        obtain ⟨h1, h2, _⟩ := plainL_sml hp.1
        refine ⟨.inr (.inl ⟨rfl, rfl, rfl, h1, h2, hp.2⟩), ?_⟩
        rw [textL, if_pos hp]
        exact told_name t.t 0 h1 h2
      · rw [if_neg hp]
        refine ⟨.inl ⟨rfl, rfl, rfl⟩, ?_⟩
        rw [textL, if_neg hp]
        exact told_quoted t.t 0
    · have hs' : t.s = false := by simpa using hs
      rw [if_neg hs, hs']
      exact ⟨.inr (.inr (.inr (.inl ⟨rfl, rfl, rfl, hf.1, hf.2⟩))), told_num [] t.n false⟩

/-- A piece that may stand before a stop, and is its text. -/
def PieceOk (L : Laid) (t : List UInt8) : Prop := laidT L = t ∧ ∀ z, stopL z = true → LaidOk L z
theorem one_ok {t : TermL} (h : mayT t = true) (hf : fitT t) : PieceOk (oneK t) (termT t) := by
  obtain ⟨h1, h2⟩ := term_fit h hf
  refine ⟨?_, fun z hz => ⟨h1, by simp [oneK], .inr ?_, trivial⟩⟩
  · unfold oneK laidT
    simp [h2]
  · exact hz
theorem sep_ok {α : Type} {one : α → Laid} {text : α → List UInt8} : ∀ {l : List α}, (∀ x ∈ l, PieceOk (one x) (text x)) → PieceOk (sepK one l) (sepT cmaT (l.map text))
  | [], _ => ⟨rfl, fun z hz => trivial⟩
  | [x], h => by
    have := h x (List.mem_cons_self ..)
    exact this
  | x :: y :: r, h => by
    obtain ⟨a1, a2⟩ := h x (List.mem_cons_self ..)
    obtain ⟨b1, b2⟩ := sep_ok (l := y :: r) fun z hz => h z (List.mem_cons_of_mem _ hz)
    refine ⟨?_, fun z hz => ?_⟩
    · rw [sepK, laidT_app, laidT_cons, a1, b1, told_mk]
      simp [sepT, cmaT]
    · rw [sepK]
      refine laidOk_app (a2 _ ?_) ⟨mk_one (by decide), by simp, .inl (by decide), b2 z hz⟩
      rw [laidT_cons, told_mk]
      rfl
theorem atom_ok {a : AtomL} (h : mayA a = true) (hf : ∀ t ∈ a.a, fitT t) : PieceOk (atomK a) (atomT a) := by
  unfold mayA at h
  simp only [Bool.and_eq_true, decide_eq_true_eq, List.all_eq_true] at h
  obtain ⟨n1, n2⟩ := name_fit h.1.1
  unfold atomK atomT
  by_cases ha : a.a = []
  · rw [if_pos ha, if_pos ha]
    refine ⟨?_, fun z hz => ⟨n1, by simp, .inr hz, trivial⟩⟩
    rw [laidT_cons, laidT_nil, n2]
    simp
  · rw [if_neg ha, if_neg ha]
    obtain ⟨b1, b2⟩ := sep_ok (one := oneK) (text := termT) (l := a.a) fun t ht => one_ok (h.2 t ht) (hf t ht)
    refine ⟨?_, fun z hz => ⟨n1, by simp, .inr ?_, mk_one (by decide), by simp, .inl (by decide), laidOk_app (b2 _ ?_) ⟨mk_one (by decide), by simp, .inl (by decide), trivial⟩⟩⟩
    · rw [laidT_cons, laidT_cons, laidT_app, laidT_cons, laidT_nil, n2, b1, told_mk, told_mk]
      simp
    · rw [laidT_cons, told_mk]
      rfl
    · rw [laidT_cons, told_mk]
      rfl
theorem op_fit {o : List UInt8} (h : opL o = true) : TokFit (mk o) := by
  unfold opL at h
  simp only [Bool.or_eq_true, beq_iff_eq] at h
  rcases h with ((((rfl | rfl) | rfl) | rfl) | rfl) | rfl
  · exact mk_one (by decide)
  · exact .inr (.inr (.inr (.inr ⟨rfl, rfl, rfl, .inl (by simp [mk])⟩)))
  · exact mk_one (by decide)
  · exact .inr (.inr (.inr (.inr ⟨rfl, rfl, rfl, .inl (by simp [mk])⟩)))
  · exact mk_one (by decide)
  · exact .inr (.inr (.inr (.inr ⟨rfl, rfl, rfl, .inl (by simp [mk])⟩)))
/-- The numbers that a literal, a rule holds fit. -/
def fitA (a : AtomL) : Prop := ∀ t ∈ a.a, fitT t
def fitLit (l : LitL) : Prop := fitA l.a ∧ fitT l.l ∧ fitT l.r
def fitR (r : RuleL) : Prop := fitA r.h ∧ ∀ l ∈ r.b, fitLit l
theorem lit_ok {l : LitL} (h : mayL l = true) (hf : fitLit l) : PieceOk (litK l) (litT l) := by
  unfold mayL at h
  unfold litK litT
  by_cases h3 : l.k = 3
  · rw [if_pos h3] at h
    simp only [Bool.and_eq_true] at h
    obtain ⟨⟨⟨⟨ho, hl⟩, hr⟩, _⟩, _⟩ := h
    rw [if_neg (by omega), if_neg (by omega), if_neg (by omega), if_neg (by omega), if_pos h3]
    obtain ⟨a1, a2⟩ := term_fit hl hf.2.1
    obtain ⟨b1, b2⟩ := one_ok hr hf.2.2
    refine ⟨?_, fun z hz => ⟨a1, by simp, .inr (by rfl), op_fit ho, by simp, .inr (by rfl), b2 z hz⟩⟩
    rw [laidT_cons, laidT_cons, b1, a2, told_mk]
    simp
  · rw [if_neg h3] at h
    simp only [Bool.and_eq_true, Bool.or_eq_true, beq_iff_eq] at h
    have ha := atom_ok h.2 hf.1
    by_cases h1 : l.k = 1
    · rw [if_pos h1, if_pos h1]
      exact ha
    · have h2 : l.k = 2 := by
        rcases h.1.1.1.1 with h' | h'
        · exact absurd h' h1
        · exact h'
      rw [if_neg h1, if_neg h1, if_pos h2, if_pos h2]
      have hn : TokFit (nameK notL) := .inr (.inl ⟨rfl, rfl, rfl, ⟨_, _, rfl, by decide⟩, by decide, by decide⟩)
      refine ⟨?_, fun z hz => ⟨hn, by simp, .inr (by rfl), ha.2 z hz⟩⟩
      rw [laidT_cons, ha.1]
      rfl
theorem endK_map {m : List UInt8} : ∀ L : Laid, (endK m L).map Prod.fst = L.map Prod.fst
  | [] => rfl
  | [p] => rfl
  | p :: q :: r => by rw [endK, List.map_cons, endK_map (q :: r)]; rfl
theorem endK_text {m : List UInt8} : ∀ {L : Laid}, L ≠ [] → laidT (endK m L) = laidT L ++ m
  | [], h => absurd rfl h
  | [p], _ => by simp [endK, laidT]
  | p :: q :: r, _ => by rw [endK, laidT_cons, endK_text (L := q :: r) (by simp), laidT_cons p (q :: r)]; simp
  termination_by L => L.length
theorem endK_ok {m : List UInt8} (hm : ∀ c ∈ m, c = 32 ∨ c = 10) : ∀ {L : Laid} {z : List UInt8}, LaidOk L (m ++ z) → LaidOk (endK m L) z
  | [], z, _ => trivial
  | [p], z, ⟨h1, h2, h3, h4⟩ => by
    refine ⟨h1, ?_, ?_, trivial⟩
    · intro c hc
      rcases List.mem_append.1 hc with hc | hc
      · exact h2 c hc
      · exact hm c hc
    · show After p.1 (p.2 ++ m ++ (laidT [] ++ z))
      rw [laidT_nil, List.nil_append] at h3 ⊢
      rw [List.append_assoc]
      exact h3
  | p :: q :: r, z, ⟨h1, h2, h3, h4⟩ => by
    refine ⟨h1, h2, ?_, endK_ok hm (L := q :: r) h4⟩
    show After p.1 (p.2 ++ (laidT (endK m (q :: r)) ++ z))
    rw [endK_text (by simp), List.append_assoc]
    exact h3
  termination_by L => L.length
theorem atomK_ne (a : AtomL) : atomK a ≠ [] := by
  unfold atomK
  split <;> simp
theorem rule_ok {r : RuleL} (h : mayR r = true) (hf : fitR r) (z : List UInt8) : laidT (ruleK r) = ruleT r ++ [10] ∧ LaidOk (ruleK r) z := by
  unfold mayR at h
  simp only [Bool.and_eq_true, decide_eq_true_eq, List.all_eq_true] at h
  obtain ⟨a1, a2⟩ := atom_ok h.1.1 hf.1
  unfold ruleK ruleT
  by_cases hb : r.b = []
  · rw [if_pos hb, if_pos hb]
    refine ⟨?_, laidOk_app (a2 _ ?_) ⟨mk_one (by decide), by simp, .inl (by decide), trivial⟩⟩
    · rw [laidT_app, a1, laidT_cons, laidT_nil, told_mk]
      simp
    · rw [laidT_cons, told_mk]
      rfl
  · rw [if_neg hb, if_neg hb]
    obtain ⟨b1, b2⟩ := sep_ok (one := litK) (text := litT) (l := r.b) fun l hl => lit_ok (h.2 l hl) (hf.2 l hl)
    refine ⟨?_, laidOk_app (endK_ok (by simp) (a2 _ (by rfl))) ⟨.inr (.inr (.inr (.inr ⟨rfl, rfl, rfl, .inl (by simp [mk])⟩))), by simp, .inl (by decide), laidOk_app (b2 _ ?_) ⟨mk_one (by decide), by simp, .inl (by decide), trivial⟩⟩⟩
    · rw [laidT_app, endK_text (atomK_ne _), a1, laidT_cons, laidT_app, laidT_cons, laidT_nil, b1, told_mk, told_mk]
      simp
    · rw [laidT_cons, told_mk]
      rfl
theorem decl_ok {d : DeclL} (h : mayD d = true) (z : List UInt8) : laidT (declK d) = declT d ++ [10] ∧ LaidOk (declK d) z := by
  unfold mayD at h
  simp only [Bool.and_eq_true, decide_eq_true_eq] at h
  obtain ⟨n1, n2⟩ := name_fit h.1.1
  refine ⟨?_, n1, by simp, .inr ?_, mk_one (by decide), by simp, .inl (by decide), .inr (.inr (.inr (.inl ⟨rfl, rfl, rfl, by dsimp only; omega, by dsimp only; omega⟩))), by simp, .inr ?_, mk_one (by decide), by simp, .inl (by decide), trivial⟩
  · unfold declK declT
    rw [laidT_cons, laidT_cons, laidT_cons, laidT_cons, laidT_nil, n2, told_mk, told_mk]
    show d.p ++ [] ++ ([47] ++ [] ++ (toldL ((3 : Nat) : Int) [] d.n false ++ [] ++ ([46] ++ [10] ++ []))) = _
    rw [told_num]
    simp
  · rw [laidT_cons, told_mk]
    rfl
  · rw [laidT_cons, told_mk]
    rfl
theorem flat_ok {α : Type} {one : α → Laid} {text : α → List UInt8} : ∀ {l : List α}, (∀ x ∈ l, ∀ z, laidT (one x) = text x ++ [10] ∧ LaidOk (one x) z) → laidT (l.flatMap one) = (l.flatMap fun x => text x ++ [10]) ∧ ∀ z, LaidOk (l.flatMap one) z
  | [], _ => ⟨rfl, fun _ => trivial⟩
  | x :: r, h => by
    obtain ⟨a1, a2⟩ := flat_ok (l := r) fun y hy => h y (List.mem_cons_of_mem _ hy)
    rw [List.flatMap_cons, List.flatMap_cons, laidT_app, a1, (h x (List.mem_cons_self ..) []).1]
    exact ⟨rfl, fun z => laidOk_app (h x (List.mem_cons_self ..) _).2 (a2 z)⟩
def fitP (rs : List RuleL) : Prop := ∀ r ∈ rs, fitR r
theorem prog_ok {ds : List DeclL} {rs : List RuleL} (h : mayP ds rs = true) (hf : fitP rs) : laidT (progK ds rs) = prgT ds rs ∧ LaidOk (progK ds rs) [] := by
  unfold mayP at h
  simp only [Bool.and_eq_true, decide_eq_true_eq, List.all_eq_true] at h
  obtain ⟨a1, a2⟩ := flat_ok (one := declK) (text := declT) (l := ds) fun d hd z => decl_ok (h.1.2 d hd) z
  obtain ⟨b1, b2⟩ := flat_ok (one := ruleK) (text := ruleT) (l := rs) fun r hr z => rule_ok (h.2 r hr) (hf r hr) z
  unfold progK prgT
  rw [laidT_app, a1, b1]
  exact ⟨rfl, laidOk_app (a2 _) (b2 _)⟩
/-- Its tokens are scanned. -/
theorem prog_scan {ds : List DeclL} {rs : List RuleL} (h : mayP ds rs = true) (hf : fitP rs) (hl : (prgT ds rs).length ≤ 65536) : ∃ L, scanL (prgT ds rs) = .ok L ∧ L.map Prod.fst = (progK ds rs).map Prod.fst := by
  obtain ⟨h1, h2⟩ := prog_ok h hf
  unfold scanL
  rw [if_neg (by omega)]
  have := laid_back (prgT ds rs).length (progK ds rs) h2
  rw [h1] at this
  exact this
theorem atom_scan {a : AtomL} (h : mayA a = true) (hf : fitA a) (hl : (atomT a).length ≤ 65536) : ∃ L, scanL (atomT a) = .ok L ∧ L.map Prod.fst = (atomK a).map Prod.fst := by
  obtain ⟨h1, h2⟩ := atom_ok h hf
  unfold scanL
  rw [if_neg (by omega)]
  have := laid_back (atomT a).length (atomK a) (h2 [] rfl)
  rw [h1] at this
  exact this
end Go.Proofs.YtminbdcabacfbaaGreatDoor.V

namespace Go.Proofs.YtminbdcabacfbaaGreatDoor.V
set_option linter.unusedVariables false
set_option linter.unusedSimpArgs false

/-- What may stand behind an atom. -/
def Nx (N : Nat) (r : List TP) : Prop := isM N r 0 [40] = false ∧ isO N r 0 = false
theorem pk_zero (N : Nat) (p : TP) (r : List TP) : pk N (p :: r) 0 = p := rfl
theorem isM_mk (N : Nat) (p : TP) (r : List TP) (m n : List UInt8) (h : p.1 = mk m) : isM N (p :: r) 0 n = (m == n) := by
  unfold isM
  rw [pk_zero, h]
  simp [mk]
theorem isO_mk (N : Nat) (p : TP) (r : List TP) (m : List UInt8) (h : p.1 = mk m) : isO N (p :: r) 0 = opL m := by
  unfold isO
  rw [pk_zero, h]
  simp [mk]
theorem nx_mk {N : Nat} {p : TP} {r : List TP} {m : List UInt8} (h : p.1 = mk m) (h1 : (m == [40]) = false) (h2 : opL m = false) : Nx N (p :: r) := ⟨by rw [isM_mk N p r m _ h, h1], by rw [isO_mk N p r m h, h2]⟩
theorem nx_nil (N : Nat) : Nx N [] := ⟨rfl, rfl⟩
theorem map_split {A B : Laid} {L : List TP} (h : L.map Prod.fst = (A ++ B).map Prod.fst) : ∃ L1 L2, L = L1 ++ L2 ∧ L1.map Prod.fst = A.map Prod.fst ∧ L2.map Prod.fst = B.map Prod.fst := by
  rw [List.map_append] at h
  obtain ⟨L1, L2, h1, h2, h3⟩ := List.map_eq_append_iff.1 h
  exact ⟨L1, L2, h1, h2, h3⟩
theorem map_head {q : Tok × List UInt8} {B : Laid} {L : List TP} (h : L.map Prod.fst = (q :: B).map Prod.fst) : ∃ p L2, L = p :: L2 ∧ p.1 = q.1 ∧ L2.map Prod.fst = B.map Prod.fst := by
  rw [List.map_cons] at h
  obtain ⟨p, L2, h1, h2, h3⟩ := List.map_eq_cons_iff.1 h
  exact ⟨p, L2, h1, h2, h3⟩
theorem map_none {L : List TP} (h : L.map Prod.fst = ([] : Laid).map Prod.fst) : L = [] := by simpa using h

theorem termP_back {N : Nat} {t : TermL} (h : mayT t = true) (p : TP) (hp : p.1 = termK t) (r : List TP) : termP N (p :: r) = .ok t r := by
  obtain ⟨v, x, s, y, n⟩ := t
  unfold mayT at h
  unfold termK at hp
  unfold termP
  rw [pk_zero, hp]
  cases v with
  | true =>
    simp at h
    simp [h]
  | false =>
    cases s with
    | true =>
      simp at h
      by_cases hc : plainL y = true ∧ y.length ≤ 32
      · obtain ⟨_, _, h3⟩ := plainL_sml hc.1
        simp [h, hc, h3]
      · simp only [Bool.false_eq_true, if_false, if_true, if_neg hc]
        simp [h]
    | false =>
      simp at h
      simp [h]
theorem someP_back {α : Type} {one : List TP → Par α} {K : α → Laid} {N : Nat} : ∀ (l : List α) (m : Nat), l ≠ [] → l.length ≤ m → (∀ x ∈ l, ∀ L r, L.map Prod.fst = (K x).map Prod.fst → Nx N r → one (L ++ r) = .ok x r) →
    ∀ (L r : List TP), L.map Prod.fst = (sepK K l).map Prod.fst → Nx N r → isM N r 0 [44] = false → someP one N m (L ++ r) = .ok l r
  | [], _, h, _, _ => absurd rfl h
  | [x], 0, _, h, _ => by simp at h
  | [x], m + 1, _, _, ho => by
    intro L r hL hr hc
    rw [someP, ho x (List.mem_cons_self ..) L r hL hr]
    dsimp only
    rw [if_neg (by rw [hc]; simp)]
  | x :: y :: l, 0, _, h, _ => by simp at h
  | x :: y :: l, m + 1, _, h, ho => by
    intro L r hL hr hc
    rw [sepK] at hL
    obtain ⟨L1, L2, rfl, h1, h2⟩ := map_split hL
    obtain ⟨p, L3, rfl, h3, h4⟩ := map_head h2
    rw [List.append_assoc, List.cons_append, someP, ho x (List.mem_cons_self ..) L1 (p :: (L3 ++ r)) h1 (nx_mk h3 (by decide) (by decide))]
    dsimp only
    rw [if_pos (by rw [isM_mk N p _ _ _ h3]; decide), List.tail_cons, someP_back (y :: l) m (by simp) (by simpa using h) (fun z hz => ho z (List.mem_cons_of_mem _ hz)) L3 r h4 hr hc]
theorem markP_back {α : Type} {N : Nat} {m : List UInt8} {x : α} (p : TP) (r : List TP) (h : p.1 = mk m) : markP N m x (p :: r) = .ok x r := by
  unfold markP
  rw [if_pos (by rw [isM_mk N p r m _ h]; simp)]
  rfl
theorem nameP_back {N : Nat} {s : List UInt8} (h : plainL s = true) (p : TP) (r : List TP) (hp : p.1 = nameK s) : nameP N (p :: r) = .ok s r := by
  unfold nameP
  rw [pk_zero, hp]
  simp [nameK, h]
theorem atomP_back {N : Nat} {a : AtomL} (h : mayA a = true) (L r : List TP) (hL : L.map Prod.fst = (atomK a).map Prod.fst) (hr : Nx N r) : atomP N (L ++ r) = .ok a r := by
  obtain ⟨s, l⟩ := a
  unfold mayA nameL at h
  simp only [Bool.and_eq_true, decide_eq_true_eq, List.all_eq_true] at h
  unfold atomK at hL
  dsimp only at h hL
  by_cases ha : l = []
  · rw [if_pos ha] at hL
    obtain ⟨p, L2, rfl, h1, h2⟩ := map_head hL
    rw [map_none h2, List.singleton_append, atomP, nameP_back h.1.1.1 p r h1]
    dsimp only
    rw [if_neg (by rw [hr.1]; simp), ha]
  · rw [if_neg ha] at hL
    obtain ⟨p, L2, rfl, h1, h2⟩ := map_head hL
    obtain ⟨q, L3, rfl, h3, h4⟩ := map_head h2
    obtain ⟨L4, L5, rfl, h5, h6⟩ := map_split h4
    obtain ⟨e, L6, rfl, h7, h8⟩ := map_head h6
    rw [map_none h8, List.cons_append, List.cons_append, List.append_assoc, List.singleton_append, atomP, nameP_back h.1.1.1 p _ h1]
    dsimp only
    rw [if_pos (by rw [isM_mk N q _ _ _ h3]; decide), List.tail_cons, someP_back (K := oneK) l 6 ha h.1.2 (fun x hx L r hL hr => by
      obtain ⟨p, L2, rfl, h1, h2⟩ := map_head hL
      rw [map_none h2, List.singleton_append]
      exact termP_back (h.2 x hx) p h1 r) L4 (e :: r) h5 (nx_mk h7 (by decide) (by decide)) (by rw [isM_mk N e _ _ _ h7]; decide)]
    dsimp only
    exact markP_back e r h7
theorem isTerm0_eq {t : TermL} (h : isTerm0 t = true) : t = term0 := by
  obtain ⟨v, x, s, y, n⟩ := t
  unfold isTerm0 at h
  simp at h
  simp [term0, h]
theorem litP_back {N : Nat} {l : LitL} (h : mayL l = true) (L r : List TP) (hL : L.map Prod.fst = (litK l).map Prod.fst) (hr : Nx N r) : litP N (L ++ r) = .ok l r := by
  unfold mayL at h
  unfold litK at hL
  by_cases h3 : l.k = 3
  · rw [if_pos h3] at h
    rw [if_neg (by omega), if_neg (by omega)] at hL
    simp only [Bool.and_eq_true] at h
    obtain ⟨⟨⟨⟨ho, hl⟩, hr'⟩, hap⟩, haa⟩ := h
    obtain ⟨p, L2, rfl, a1, a2⟩ := map_head hL
    obtain ⟨q, L3, rfl, b1, b2⟩ := map_head a2
    obtain ⟨e, L4, rfl, c1, c2⟩ := map_head b2
    rw [map_none c2]
    have hq : isO N (q :: (e :: r)) 0 = true := by rw [isO_mk N q _ _ b1, ho]
    have hq1 : isO N (p :: q :: (e :: r)) 1 = true := hq
    have n1 : ¬ ((pk N (p :: q :: (e :: r)) 0).1.k == 1 && !(pk N (p :: q :: (e :: r)) 0).1.q && (pk N (p :: q :: (e :: r)) 0).1.s == notL) = true := by
      rw [pk_zero, a1]
      unfold termK
      split
      · simp
      · split
        · split
          · rename_i hc
            have := (plainL_sml hc.1).2.2
            simp [this]
          · simp
        · simp
    have n2 : ¬ ((pk N (p :: q :: (e :: r)) 0).1.k == 1 && !(pk N (p :: q :: (e :: r)) 0).1.q && !isO N (p :: q :: (e :: r)) 1) = true := by
      rw [hq1]
      simp
    show litP N (p :: q :: (e :: r)) = _
    rw [litP, if_neg n1, if_neg n2, termP_back hl p a1]
    dsimp only
    rw [if_pos hq, List.tail_cons, termP_back hr' e c1]
    dsimp only
    rw [pk_zero, b1]
    obtain ⟨k, ⟨ap, aa⟩, o, tl, tr⟩ := l
    simp at hap haa h3
    simp [mk, atom0, hap, haa, h3]
  · rw [if_neg h3] at h
    simp only [Bool.and_eq_true, Bool.or_eq_true, beq_iff_eq] at h
    obtain ⟨⟨⟨⟨hk, ho⟩, hl⟩, hr'⟩, ha⟩ := h
    have ho' : l.o = [] := by simpa using ho
    by_cases h1 : l.k = 1
    · rw [if_pos h1] at hL
      have hA := atomP_back ha L r hL hr
      have hpl : plainL l.a.p = true := by
        unfold mayA nameL at ha
        simp only [Bool.and_eq_true] at ha
        exact ha.1.1.1
      obtain ⟨p, L2, e1, e2, e3⟩ : ∃ p L2, L = p :: L2 ∧ p.1 = nameK l.a.p ∧ isO N (L2 ++ r) 0 = false := by
        unfold atomK at hL
        by_cases hz : l.a.a = []
        · rw [if_pos hz] at hL
          obtain ⟨p, L2, rfl, h1, h2⟩ := map_head hL
          rw [map_none h2]
          exact ⟨p, [], rfl, h1, hr.2⟩
        · rw [if_neg hz] at hL
          obtain ⟨p, L2, rfl, h1, h2⟩ := map_head hL
          obtain ⟨q, L3, rfl, h3, h4⟩ := map_head h2
          exact ⟨p, _, rfl, h1, by rw [List.cons_append, isO_mk N q _ _ h3]; decide⟩
      subst e1
      have n1 : ¬ ((pk N (p :: (L2 ++ r)) 0).1.k == 1 && !(pk N (p :: (L2 ++ r)) 0).1.q && (pk N (p :: (L2 ++ r)) 0).1.s == notL) = true := by
        rw [pk_zero, e2]
        have := (plainL_sml hpl).2.2
        simp [nameK, this]
      have n2 : ((pk N (p :: (L2 ++ r)) 0).1.k == 1 && !(pk N (p :: (L2 ++ r)) 0).1.q && !isO N (p :: (L2 ++ r)) 1) = true := by
        rw [pk_zero, e2, show isO N (p :: (L2 ++ r)) 1 = isO N (L2 ++ r) 0 from rfl, e3]
        rfl
      rw [List.cons_append] at hA ⊢
      rw [litP, if_neg n1, if_pos n2, hA]
      dsimp only
      obtain ⟨k, a, o, tl, tr⟩ := l
      dsimp only at *
      rw [h1, ho', isTerm0_eq hl, isTerm0_eq hr']
    · have h2 : l.k = 2 := by
        rcases hk with h' | h'
        · exact absurd h' h1
        · exact h'
      rw [if_neg h1, if_pos h2] at hL
      obtain ⟨p, L2, rfl, e1, e2⟩ := map_head hL
      have hA := atomP_back ha L2 r e2 hr
      have n1 : ((pk N (p :: (L2 ++ r)) 0).1.k == 1 && !(pk N (p :: (L2 ++ r)) 0).1.q && (pk N (p :: (L2 ++ r)) 0).1.s == notL) = true := by
        rw [pk_zero, e1]
        rfl
      rw [List.cons_append, litP, if_pos n1, List.tail_cons, hA]
      dsimp only
      obtain ⟨k, a, o, tl, tr⟩ := l
      dsimp only at *
      rw [h2, ho', isTerm0_eq hl, isTerm0_eq hr']
theorem ruleP_back {N : Nat} {x : RuleL} (h : mayR x = true) (L r : List TP) (hL : L.map Prod.fst = (ruleK x).map Prod.fst) : ruleP N (L ++ r) = .ok x r := by
  obtain ⟨hd, b⟩ := x
  unfold mayR at h
  simp only [Bool.and_eq_true, decide_eq_true_eq, List.all_eq_true] at h
  unfold ruleK at hL
  dsimp only at h hL
  by_cases hb : b = []
  · rw [if_pos hb] at hL
    obtain ⟨L1, L2, rfl, h1, h2⟩ := map_split hL
    obtain ⟨p, L3, rfl, h3, h4⟩ := map_head h2
    rw [map_none h4, List.append_assoc, List.singleton_append, ruleP, atomP_back h.1.1 L1 (p :: r) h1 (nx_mk h3 (by decide) (by decide))]
    dsimp only
    rw [if_neg (by rw [isM_mk N p _ _ _ h3]; decide), markP_back p r h3, hb]
  · rw [if_neg hb] at hL
    obtain ⟨L1, L2, rfl, h1, h2⟩ := map_split hL
    rw [endK_map] at h1
    obtain ⟨p, L3, rfl, h3, h4⟩ := map_head h2
    obtain ⟨L4, L5, rfl, h5, h6⟩ := map_split h4
    obtain ⟨e, L6, rfl, h7, h8⟩ := map_head h6
    rw [map_none h8, List.append_assoc, List.cons_append, List.append_assoc, List.singleton_append, ruleP, atomP_back h.1.1 L1 _ h1 (nx_mk h3 (by decide) (by decide))]
    dsimp only
    rw [if_pos (by rw [isM_mk N p _ _ _ h3]; decide), List.tail_cons, someP_back (K := litK) b 8 hb h.1.2 (fun x hx L r hL hr => litP_back (h.2 x hx) L r hL hr) L4 (e :: r) h5 (nx_mk h7 (by decide) (by decide)) (by rw [isM_mk N e _ _ _ h7]; decide)]
    dsimp only
    exact markP_back e r h7
theorem declP_back {N : Nat} {d : DeclL} (h : mayD d = true) (L r : List TP) (hL : L.map Prod.fst = (declK d).map Prod.fst) : declP N (L ++ r) = .ok d r ∧ isM N (L ++ r) 1 [47] = true ∧ L ≠ [] := by
  obtain ⟨s, n⟩ := d
  unfold mayD nameL at h
  simp only [Bool.and_eq_true, decide_eq_true_eq] at h
  unfold declK at hL
  obtain ⟨p, L2, rfl, a1, a2⟩ := map_head hL
  obtain ⟨q, L3, rfl, b1, b2⟩ := map_head a2
  obtain ⟨e, L4, rfl, c1, c2⟩ := map_head b2
  obtain ⟨f, L5, rfl, d1, d2⟩ := map_head c2
  rw [map_none d2]
  refine ⟨?_, ?_, by simp⟩
  · show declP N (p :: q :: e :: f :: r) = _
    rw [declP, nameP_back h.1.1.1 p _ a1]
    dsimp only
    rw [List.tail_cons, arityP, pk_zero, c1]
    dsimp only
    rw [if_pos (by rfl), if_neg (by simp; omega)]
    dsimp only
    exact markP_back f r d1
  · show isM N (q :: e :: f :: r) 0 [47] = true
    rw [isM_mk N q _ _ _ b1]
    decide
theorem ruleK_two (x : RuleL) : ∃ m rest, (ruleK x).map Prod.fst = nameK x.h.p :: mk m :: rest ∧ (m == [47]) = false := by
  unfold ruleK
  by_cases hb : x.b = []
  · rw [if_pos hb]
    unfold atomK
    by_cases ha : x.h.a = []
    · rw [if_pos ha]
      exact ⟨_, _, rfl, by decide⟩
    · rw [if_neg ha]
      exact ⟨_, _, rfl, by decide⟩
  · rw [if_neg hb, List.map_append, endK_map]
    unfold atomK
    by_cases ha : x.h.a = []
    · rw [if_pos ha]
      exact ⟨_, _, rfl, by decide⟩
    · rw [if_neg ha]
      exact ⟨_, _, rfl, by decide⟩
theorem rules_back {N : Nat} : ∀ (rs : List RuleL) (f : Nat) (ds0 : List DeclL) (rs0 : List RuleL) (L : List TP), (∀ r ∈ rs, mayR r = true) → L.map Prod.fst = (rs.flatMap ruleK).map Prod.fst → L.length < f → rs0.length + rs.length ≤ 400 →
    progF N f ds0 rs0 L = .ok (ds0, rs0 ++ rs) []
  | [], 0, _, _, _, _, _, h, _ => by omega
  | [], f + 1, ds0, rs0, L, _, hL, _, _ => by
    rw [map_none hL, List.append_nil]
    rfl
  | r :: rs, 0, _, _, _, _, _, h, _ => by omega
  | r :: rs, f + 1, ds0, rs0, L, hm, hL, hf, h4 => by
    rw [List.flatMap_cons] at hL
    obtain ⟨L1, L2, rfl, h1, h2⟩ := map_split hL
    have hR := ruleP_back (N := N) (hm r (List.mem_cons_self ..)) L1 L2 h1
    obtain ⟨m, rest, e1, e2⟩ := ruleK_two r
    rw [e1] at h1
    obtain ⟨p, L3, rfl, a1, a2⟩ := List.map_eq_cons_iff.1 h1
    obtain ⟨q, L4, rfl, b1, b2⟩ := List.map_eq_cons_iff.1 a2
    rw [List.cons_append] at hR ⊢
    rw [progF, if_neg (by
      show ¬ isM N (q :: L4 ++ L2) 0 [47] = true
      rw [List.cons_append, isM_mk N q _ _ _ b1, e2]
      simp), if_neg (by simp only [List.length_cons] at h4; simp; omega), hR]
    dsimp only
    rw [rules_back rs f ds0 (rs0 ++ [r]) L2 (fun x hx => hm x (List.mem_cons_of_mem _ hx)) h2 (by simp at hf ⊢; omega) (by simp at h4 ⊢; omega), List.append_assoc]
    rfl
theorem decls_back {N : Nat} : ∀ (ds : List DeclL) (rs : List RuleL) (f : Nat) (ds0 : List DeclL) (L : List TP), (∀ d ∈ ds, mayD d = true) → (∀ r ∈ rs, mayR r = true) → L.map Prod.fst = (progK ds rs).map Prod.fst → L.length < f → ds0.length + ds.length ≤ 400 → rs.length ≤ 400 →
    progF N f ds0 [] L = .ok (ds0 ++ ds, rs) []
  | [], rs, f, ds0, L, _, hm, hL, hf, _, h4 => by
    rw [List.append_nil]
    exact rules_back rs f ds0 [] L hm hL hf (by simpa using h4)
  | d :: ds, rs, 0, _, _, _, _, _, h, _, _ => by omega
  | d :: ds, rs, f + 1, ds0, L, hd, hm, hL, hf, h4, h5 => by
    unfold progK at hL
    rw [List.flatMap_cons, List.append_assoc] at hL
    obtain ⟨L1, L2, rfl, h1, h2⟩ := map_split hL
    obtain ⟨hR, hM, hne⟩ := declP_back (N := N) (hd d (List.mem_cons_self ..)) L1 L2 h1
    obtain ⟨p, L3, rfl⟩ := List.exists_cons_of_ne_nil hne
    rw [List.cons_append] at hR hM ⊢
    rw [progF, if_pos hM, if_neg (by simp only [List.length_cons] at h4; simp; omega), hR]
    dsimp only
    rw [decls_back ds rs f (ds0 ++ [d]) L2 (fun x hx => hd x (List.mem_cons_of_mem _ hx)) hm h2 (by simp at hf ⊢; omega) (by simp at h4 ⊢; omega) h5, List.append_assoc]
    rfl
/-- The law: a program that may be, printed, is parsed as it was. -/
theorem print_parse {ds : List DeclL} {rs : List RuleL} (h : mayP ds rs = true) (hf : fitP rs) (hl : (prgT ds rs).length ≤ 65536) : parseL (prgT ds rs) = .ok (ds, rs) := by
  obtain ⟨L, h1, h2⟩ := prog_scan h hf hl
  unfold mayP at h
  simp only [Bool.and_eq_true, decide_eq_true_eq, List.all_eq_true] at h
  unfold parseL
  rw [h1]
  dsimp only
  rw [decls_back ds rs (L.length + 1) [] L h.1.2 h.2 h2 (Nat.lt_succ_self _) (by simpa using h.1.1.1) h.1.1.2]
  rfl
theorem atom_parse {a : AtomL} (h : mayA a = true) (hf : fitA a) (hl : (atomT a).length ≤ 65536) : atomL (atomT a) = .ok a := by
  obtain ⟨L, h1, h2⟩ := atom_scan h hf hl
  unfold atomL
  rw [h1]
  dsimp only
  have := atomP_back (N := (atomT a).length) h L [] h2 (nx_nil _)
  rw [List.append_nil] at this
  rw [this]
end Go.Proofs.YtminbdcabacfbaaGreatDoor.V

namespace Go.Proofs.YtminbdcabacfbaaGreatDoor.V
set_option linter.unusedVariables false
open Go.RowKit

theorem int_calls (n : Int) (w : World) : Calls Tryz.prog 94 #[.int .i64 n] w fun e w' => e = .returned (.agg #[.bool false, .string ⟨#[]⟩, .int .i64 n]) ∧ Below w.heap.size w w' := by
  go_enter Tryz.func94, Tryz.ntmps94
  go_wp2
  refine bodyPost_ret (v := .agg #[.bool false, .string ⟨#[]⟩, .int .i64 n]) (by simp [results, Tryz.results94, go_sem]) rfl ⟨rfl, (Below.refl _ _).alloc (Nat.le_refl _) _⟩
end Go.Proofs.YtminbdcabacfbaaGreatDoor.V

namespace Go.Proofs.YtminbdcabacfbaaGreatDoor.V
set_option linter.unusedVariables false
set_option linter.unusedSimpArgs false
open Go.RowKit

theorem en_two : ∀ args w, (callFunc 154 args).run Tryz.prog w = .ok (.enter 154 args) w := enters_of Tryz.func154 (by kernel_rfl) rfl
theorem two_calls (R : Nat) (r p : ByteArray) (w : World) (hR : w.cell? ⟨R, 0, none⟩ = some (.string r)) :
    Calls Tryz.prog 154 #[.string p, .pointer (some ⟨R, 0, none⟩)] w fun e w' => e = .returned (.bool (Lib.hasPrefix r.data.toList p.data.toList)) ∧ w' = w := by
  go_enter Tryz.func154, Tryz.ntmps154
  go_wp2_with (go_at_call 123; (with_reducible refine (Tryz.strings_HasPrefix _ _ _).mono ?_); rintro e w' ⟨rfl, rfl⟩)
  go_ret
  exact ⟨rfl, rfl⟩
def marks4 : List ByteArray := [⟨#[58, 45]⟩, ⟨#[60, 61]⟩, ⟨#[62, 61]⟩, ⟨#[33, 61]⟩]
theorem any_two (l : List UInt8) : ((marks4.take 4).any fun t => Lib.hasPrefix l t.data.toList) = markTwo l := by
  unfold markTwo marks4 Lib.hasPrefix
  simp [Bool.or_assoc]
theorem contains_calls (R b : Nat) (r : ByteArray) (w : World) (hR : w.cell? ⟨R, 0, none⟩ = some (.string r)) (hb : w.heap[b]? = some (.cells #[.string ⟨#[58, 45]⟩, .string ⟨#[60, 61]⟩, .string ⟨#[62, 61]⟩, .string ⟨#[33, 61]⟩] 9 (0, 0))) :
    Calls Tryz.prog 153 #[.slice (some ⟨b, 0, none⟩) 4 4, .func (.func 154) #[] #[.pointer (some ⟨R, 0, none⟩)]] w fun e w' =>
      e = .returned (.bool (markTwo r.data.toList)) ∧ Below w.heap.size w w' := by
  rw [← any_two]
  refine Calls.mono (R := fun e w' => e = .returned (.bool ((marks4.take 4).any fun t => Lib.hasPrefix r.data.toList t.data.toList)) ∧ ∃ q, w' = w.drewN q) ?_ (fun e w' h => ⟨h.1, by obtain ⟨q, rfl⟩ := h.2; exact below_drewN' (Below.refl _ _) q⟩)
  refine Tryz.slices_ContainsFunc Value.string _ 154 _ en_two b 0 4 4 marks4 w ?_ (by decide) (by decide) ?_
  · intro W x hbel
    refine (two_calls R r x W (cell_below hbel hR)).mono ?_
    rintro e w' ⟨rfl, rfl⟩
    exact ⟨rfl, 0, rfl⟩
  · intro j hj
    match j, hj with
    | 0, _ => exact cell_of_row w b 0 _ _ _ hb
    | 1, _ => exact cell_of_row w b 1 _ _ _ hb
    | 2, _ => exact cell_of_row w b 2 _ _ _ hb
    | 3, _ => exact cell_of_row w b 3 _ _ _ hb
theorem index_one (c : UInt8) : decide (Lib.indexByte [40, 41, 44, 46, 47, 60, 62, 61] c < 0) = !markOne c := by
  unfold markOne
  simp only [Lib.indexByte]
  by_cases h1 : c = 40
  · subst h1; decide
  · by_cases h2 : c = 41
    · subst h2; decide
    · by_cases h3 : c = 44
      · subst h3; decide
      · by_cases h4 : c = 46
        · subst h4; decide
        · by_cases h5 : c = 47
          · subst h5; decide
          · by_cases h6 : c = 60
            · subst h6; decide
            · by_cases h7 : c = 62
              · subst h7; decide
              · by_cases h8 : c = 61
                · subst h8; decide
                · have e1 : (40 == c) = false := by simpa using Ne.symm h1
                  have e2 : (41 == c) = false := by simpa using Ne.symm h2
                  have e3 : (44 == c) = false := by simpa using Ne.symm h3
                  have e4 : (46 == c) = false := by simpa using Ne.symm h4
                  have e5 : (47 == c) = false := by simpa using Ne.symm h5
                  have e6 : (60 == c) = false := by simpa using Ne.symm h6
                  have e7 : (62 == c) = false := by simpa using Ne.symm h7
                  have e8 : (61 == c) = false := by simpa using Ne.symm h8
                  simp [e1, e2, e3, e4, e5, e6, e7, e8, h1, h2, h3, h4, h5, h6, h7, h8]

theorem two_len {r : ByteArray} (h : markTwo r.data.toList = true) : 2 ≤ r.size := by
  have hl : r.data.toList.length = r.size := by simp
  match hL : r.data.toList with
  | [] => rw [hL] at h; simp [markTwo] at h
  | [c] => rw [hL] at h; simp [markTwo, List.isPrefixOf] at h
  | _ :: _ :: _ => rw [hL] at hl; simp at hl; omega
/-- What the scanner of marks has laid: the token's block, the rest's. -/
structure MarkW (X : Nat) (s : ByteArray) (a : Nat) (r : ByteArray) (w W : World) : Prop where
  x : IsText X s a W
  k : IsTok w.heap.size (.int .i64 0) (.string ⟨#[]⟩) (.int .i64 0) (.bool false) (.int .i64 0) W
  r : W.cell? ⟨w.heap.size + 1, 0, none⟩ = some (.string r)
  g : w.grownBy W (some X)
theorem MarkW.start {X : Nat} {s : ByteArray} {a : Nat} {w : World} (h : IsText X s a w) (r : ByteArray) : MarkW X s a r w ((w.alloc (.cells #[.int .i64 0, .string ⟨#[]⟩, .int .i64 0, .bool false, .int .i64 0] 71)).alloc (.cells #[.string r] 9)).drew where
  x := ((h.grown (World.grownBy_alloc _ _ none) (by simp)).grown (World.grownBy_alloc _ _ none) (by simp)).drew
  k := ((IsTok.new w).grown (row := none) (World.grownBy_alloc _ (.cells #[.string r] 9) none) (by simp)).grown (row := none) (grown_drew (World.grownBy.refl _ _)) (by simp)
  r := by
    have := cell_of_row _ _ 0 _ _ _ (heap_alloc_new (w.alloc (.cells #[.int .i64 0, .string ⟨#[]⟩, .int .i64 0, .bool false, .int .i64 0] 71)) (.cells #[.string r] 9))
    rw [show (w.alloc (.cells #[.int .i64 0, .string ⟨#[]⟩, .int .i64 0, .bool false, .int .i64 0] 71)).heap.size = w.heap.size + 1 by simp] at this
    exact this
  g := grown_drew (grown_trans (World.grownBy_alloc _ _ _) (World.grownBy_alloc _ _ _))
theorem MarkW.below {X : Nat} {s : ByteArray} {a : Nat} {r : ByteArray} {w W W' : World} (h : MarkW X s a r w W) (hb : Below W.heap.size W W') : MarkW X s a r w W' :=
  ⟨h.x.grown (grown_below hb none) (by simp), h.k.grown (grown_below hb none) (by simp), cell_below hb h.r, grown_trans h.g (grown_below hb _)⟩

set_option maxRecDepth 100000 in
theorem mark_calls (X : Nat) (s : ByteArray) (a : Nat) (w : World) (hT : IsText X s a w) (ha : a < s.size) (hs : s.size ≤ 65536) :
    Calls Tryz.prog 125 #[.pointer (some ⟨X, 0, none⟩)] w (OneIs X s (markL (s.data.toList.drop a)) w) := by
  have hlt := hT.lt
  have hx := hT.grown (World.grownBy_alloc w (.cells #[.int .i64 0, .string ⟨#[]⟩, .int .i64 0, .bool false, .int .i64 0] 71) none) (by simp)
  have x0 := hx.cell0
  have x1 := hx.cell1
  have HT := Lib.hid hT
  have HX := Lib.hid hx
  clear hT hx
  obtain ⟨r, hr⟩ : ∃ r, s.extract a s.size = r := ⟨_, rfl⟩
  have hrl : r.data.toList = s.data.toList.drop a := by
    rw [← hr]
    simp only [ByteArray.data_extract, Array.toList_extract, List.extract]
    rw [List.take_of_length_le (by simp)]
  have hrs : r.size = s.size - a := by rw [← hr]; simp
  have hr0 : 0 < r.size := by omega
  have hrc : r[0]'hr0 = s[a]'ha := by
    have h1 : r.data.toList[0]? = (s.data.toList.drop a)[0]? := by rw [hrl]
    rw [drop_at ha] at h1
    rw [show r.data.toList[0]? = some (r[0]'hr0) by simp [ByteArray.getElem_eq_getElem_data]] at h1
    simpa using h1
  have HR := Lib.hid hr
  have HRL := Lib.hid hrl
  have HRS := Lib.hid hrs
  obtain ⟨J, hJ⟩ : ∃ J, Lib.indexByte [40, 41, 44, 46, 47, 60, 62, 61] ((r[0]'hr0).toNat : Int).toNat.toUInt8 = J := ⟨_, rfl⟩
  have hJ2 : decide (J < 0) = !markOne s[a] := by
    rw [← hJ, ← hrc, ← index_one]
    simp
  have HJ := Lib.hid hJ
  have hhd : (s.data.toList.drop a).headD 0 = s[a] := by rw [drop_at ha]; rfl
  have HHD := Lib.hid hhd
  clear hr hrl hJ hrc hhd hrs
  cases hm : markTwo r.data.toList with
  | true =>
    have HM := Lib.hid hm
    have hrN : 2 ≤ r.size := two_len hm
    have HG := Lib.hid (show markL (s.data.toList.drop a) = .tok ⟨4, (s.data.toList.drop a).take 2, 0, false⟩ ((s.data.toList.drop a).drop 2) by
      unfold markL
      rw [← HRL.out, hm, if_pos rfl])
    have HTK := Lib.hid (show r.extract 0 2 = ⟨((s.data.toList.drop a).take 2).toArray⟩ by
      apply ByteArray.ext
      rw [← HRL.out]
      apply Array.ext'
      simp only [ByteArray.data_extract, Array.toList_extract, List.extract, List.drop_zero, Nat.sub_zero, List.toList_toArray])
    have HLE := Lib.hid (show a + 2 ≤ s.size by have := HRS.out; omega)
    clear hm hJ2
    go_enter Tryz.func125, Tryz.ntmps125
    go_wp2_with fail
    go_region
    rw [HR.out]
    have hW := MarkW.start HT.out r
    have HW := Lib.hid hW
    clear hW x0 x1
    generalize ((w.alloc (.cells #[.int .i64 0, .string ⟨#[]⟩, .int .i64 0, .bool false, .int .i64 0] 71)).alloc (.cells #[.string r] 9)).drew = W at HW ⊢
    go_wp2_with (go_at_call 153; ((with_reducible refine (contains_calls (w.heap.size + 1) W.heap.size r _ ?_ ?_).mono ?_); (focus (exact cell_below ((Below.refl _ _).alloc (Nat.le_refl _) _) HW.out.r)); (focus (exact heap_alloc_new W _)); rintro e w2 ⟨rfl, hb2⟩; rw [HM.out]; have hw2 := HW.out.below (below_then ((Below.refl _ _).alloc (Nat.le_refl _) _) hb2 (by simp)); have y0 := hw2.x.cell0; have y1 := hw2.x.cell1; have yf := hw2.x.free 1; have k0 := hw2.k.c0; have k1 := hw2.k.c1; have k2 := hw2.k.c2; have k3 := hw2.k.c3; have k4 := hw2.k.c4; have l0 := hw2.k.fr 0; have l1 := hw2.k.fr 1; have l2 := hw2.k.fr 2; have l3 := hw2.k.fr 3; have l4 := hw2.k.fr 4; have yr := hw2.r; have HW2 := Lib.hid hw2; clear hb2 hw2))
    have hset := (HW2.out.k.grown (grown_set (World.grownBy.refl w2 (some X)) 1 (.int .i64 ((a : Int) + 2))) (by simp; omega)).set (.int .i64 4) (.string (r.extract 0 2)) (.int .i64 0) (.bool false) (.int .i64 0)
    have r0 := hset.c0; have r1 := hset.c1; have r2 := hset.c2; have r3 := hset.c3; have r4 := hset.c4
    refine bodyPost_ret (v := .tuple #[.agg #[.int .i64 4, .string (r.extract 0 2), .int .i64 0, .bool false, .int .i64 0], .int .i64 0]) (by simp [results, Tryz.results125, go_sem, r0, r1, r2, r3, r4]) rfl ⟨grown_tokSet (grown_set HW2.out.g _ _) (Nat.le_refl _) _ _ _ _ _, ?_⟩
    rw [HG.out]
    refine ⟨?_, _, HLE.out, ?_, (HW2.out.x.set (a + 2)).tokSet (by omega) _ _ _ _ _⟩
    · rw [HTK.out]
      rfl
    · rw [List.drop_drop]
  | false =>
    cases h1 : markOne (s[a]'ha) with
    | true =>
      rw [h1] at hJ2
      have hJ3 : decide (J < 0) = false := hJ2
      clear hJ2
      have HM := Lib.hid hm
      have hrN : 1 ≤ r.size := hr0
      have HG := Lib.hid (show markL (s.data.toList.drop a) = .tok ⟨4, (s.data.toList.drop a).take 1, 0, false⟩ ((s.data.toList.drop a).drop 1) by
        unfold markL
        rw [← HRL.out, hm, if_neg (by simp), HRL.out, HHD.out, h1, if_pos rfl])
      have HTK := Lib.hid (show r.extract 0 1 = ⟨((s.data.toList.drop a).take 1).toArray⟩ by
        apply ByteArray.ext
        rw [← HRL.out]
        apply Array.ext'
        simp only [ByteArray.data_extract, Array.toList_extract, List.extract, List.drop_zero, Nat.sub_zero, List.toList_toArray])
      have HLE := Lib.hid (show a + 1 ≤ s.size by have := HRS.out; omega)
      clear hm
      go_enter Tryz.func125, Tryz.ntmps125
      go_wp2_with fail
      go_region
      rw [HR.out]
      have hW := MarkW.start HT.out r
      have HW := Lib.hid hW
      clear hW x0 x1
      generalize ((w.alloc (.cells #[.int .i64 0, .string ⟨#[]⟩, .int .i64 0, .bool false, .int .i64 0] 71)).alloc (.cells #[.string r] 9)).drew = W at HW ⊢
      go_wp2_with (first
        | (go_at_call 153; ((with_reducible refine (contains_calls (w.heap.size + 1) W.heap.size r _ ?_ ?_).mono ?_); (focus (exact cell_below ((Below.refl _ _).alloc (Nat.le_refl _) _) HW.out.r)); (focus (exact heap_alloc_new W _)); rintro e w2 ⟨rfl, hb2⟩; rw [HM.out]; have hw2 := HW.out.below (below_then ((Below.refl _ _).alloc (Nat.le_refl _) _) hb2 (by simp)); have y0 := hw2.x.cell0; have y1 := hw2.x.cell1; have yf := hw2.x.free 1; have k0 := hw2.k.c0; have k1 := hw2.k.c1; have k2 := hw2.k.c2; have k3 := hw2.k.c3; have k4 := hw2.k.c4; have l0 := hw2.k.fr 0; have l1 := hw2.k.fr 1; have l2 := hw2.k.fr 2; have l3 := hw2.k.fr 3; have l4 := hw2.k.fr 4; have yr := hw2.r; have HW2 := Lib.hid hw2; clear hb2 hw2))
        | (go_at_call 155; (with_reducible refine (Tryz.strings_IndexByte _ _ _).mono ?_); rintro e w' ⟨rfl, hw⟩; rw [hw, HJ.out]; clear hw))
      have hset := (HW2.out.k.grown (grown_set (World.grownBy.refl w2 (some X)) 1 (.int .i64 ((a : Int) + 1))) (by simp; omega)).set (.int .i64 4) (.string (r.extract 0 1)) (.int .i64 0) (.bool false) (.int .i64 0)
      have r0 := hset.c0; have r1 := hset.c1; have r2 := hset.c2; have r3 := hset.c3; have r4 := hset.c4
      refine bodyPost_ret (v := .tuple #[.agg #[.int .i64 4, .string (r.extract 0 1), .int .i64 0, .bool false, .int .i64 0], .int .i64 0]) (by simp [results, Tryz.results125, go_sem, r0, r1, r2, r3, r4]) rfl ⟨grown_tokSet (grown_set HW2.out.g _ _) (Nat.le_refl _) _ _ _ _ _, ?_⟩
      rw [HG.out]
      refine ⟨?_, _, HLE.out, ?_, (HW2.out.x.set (a + 1)).tokSet (by omega) _ _ _ _ _⟩
      · rw [HTK.out]
        rfl
      · rw [List.drop_drop]
    | false =>
      rw [h1] at hJ2
      have hJ3 : decide (J < 0) = true := hJ2
      clear hJ2
      have HM := Lib.hid hm
      have HG := Lib.hid (show markL (s.data.toList.drop a) = .bad 2 by
        unfold markL
        rw [← HRL.out, hm, if_neg (by simp), HRL.out, HHD.out, h1, if_neg (by simp)])
      clear hm
      go_enter Tryz.func125, Tryz.ntmps125
      go_wp2_with fail
      go_region
      rw [HR.out]
      have hW := MarkW.start HT.out r
      have HW := Lib.hid hW
      clear hW x0 x1
      generalize ((w.alloc (.cells #[.int .i64 0, .string ⟨#[]⟩, .int .i64 0, .bool false, .int .i64 0] 71)).alloc (.cells #[.string r] 9)).drew = W at HW ⊢
      go_wp2_with (first
        | (go_at_call 153; ((with_reducible refine (contains_calls (w.heap.size + 1) W.heap.size r _ ?_ ?_).mono ?_); (focus (exact cell_below ((Below.refl _ _).alloc (Nat.le_refl _) _) HW.out.r)); (focus (exact heap_alloc_new W _)); rintro e w2 ⟨rfl, hb2⟩; rw [HM.out]; have hw2 := HW.out.below (below_then ((Below.refl _ _).alloc (Nat.le_refl _) _) hb2 (by simp)); have y0 := hw2.x.cell0; have y1 := hw2.x.cell1; have yf := hw2.x.free 1; have k0 := hw2.k.c0; have k1 := hw2.k.c1; have k2 := hw2.k.c2; have k3 := hw2.k.c3; have k4 := hw2.k.c4; have l0 := hw2.k.fr 0; have l1 := hw2.k.fr 1; have l2 := hw2.k.fr 2; have l3 := hw2.k.fr 3; have l4 := hw2.k.fr 4; have yr := hw2.r; have HW2 := Lib.hid hw2; clear hb2 hw2))
        | (go_at_call 155; (with_reducible refine (Tryz.strings_IndexByte _ _ _).mono ?_); rintro e w' ⟨rfl, hw⟩; rw [hw, HJ.out]; clear hw))
      have hset := HW2.out.k.set (.int .i64 0) (.string ⟨#[]⟩) (.int .i64 0) (.bool false) (.int .i64 0)
      have r0 := hset.c0; have r1 := hset.c1; have r2 := hset.c2; have r3 := hset.c3; have r4 := hset.c4
      refine bodyPost_ret (v := .tuple #[.agg #[.int .i64 0, .string ⟨#[]⟩, .int .i64 0, .bool false, .int .i64 0], .int .i64 2]) (by simp [results, Tryz.results125, go_sem, r0, r1, r2, r3, r4]) rfl ⟨grown_tokSet HW2.out.g (Nat.le_refl _) _ _ _ _ _, ?_⟩
      rw [HG.out]
      exact ⟨rfl, _, HW2.out.x.tokSet (by omega) _ _ _ _ _⟩
end Go.Proofs.YtminbdcabacfbaaGreatDoor.V

namespace Go.Proofs.YtminbdcabacfbaaGreatDoor.V
set_option linter.unusedVariables false
set_option linter.unusedSimpArgs false
open Go.RowKit

theorem o_slice {W : World} {B e z n : Nat} {v : Value} {xs : List Value} (h : W.ownsRow B e z v n xs) : ∃ A c, v = .slice A n c := by
  rcases h.2 with ⟨rfl, rfl⟩ | ⟨g, cap, cur, rfl, _⟩
  · exact ⟨none, 0, rfl⟩
  · exact ⟨_, _, rfl⟩
theorem o_from {W : World} {B e z n : Nat} {v : Value} {xs : List Value} (h : W.ownsRow B e z v n xs) : ∀ k, v.ownBlock = some k → B ≤ k := fun k hk => (h.lt k hk).1
theorem o_cells {W : World} (C : Array Value) (e : TypeId) : ∀ j u, C.toList[j]? = some u → (W.alloc (.cells C e)).cell? ((⟨W.heap.size, 0, none⟩ : Addr).add j) = some u := by
  intro j u hu
  have h1 := cell_of_row (W.alloc (.cells C e)) W.heap.size j _ _ _ (heap_alloc_new W _)
  rw [← Array.getElem?_toList, hu] at h1
  have e : Addr.add ⟨W.heap.size, 0, none⟩ j = ⟨W.heap.size, j, none⟩ := by
    unfold Addr.add
    split <;> simp_all
  rw [e]
  exact h1
/-- What grew by a row that is newer than the start. -/
theorem o_grown {w0 W W' : World} {row r2 : Option Nat} (h : w0.grownBy W row) (k : W.grownBy W' r2) (hr : ∀ j, r2 = some j → w0.heap.size ≤ j) : w0.grownBy W' row :=
  ⟨k.os.trans h.os, k.tape.trans h.tape, k.output.trans h.output, Nat.le_trans h.size k.size, fun i hi hne => (k.block i (Nat.lt_of_lt_of_le hi h.size) (fun e => by have := hr i e.symm; omega)).trans (h.block i hi hne)⟩

theorem o_app {ops : Array Oper} {rest : List Oper} {o : Oper} {a : Act} {Q : Exit → Act → World → Prop} (hgd : o.guard = none) (s x : Operand) (t e : TypeId)
    (ho : o.op = .call { callee := .builtin .append, args := #[s, x], argTypes := #[t, t] }) (z : Value) (sz bytes : Nat) (ht : Tryz.prog.underlying t = some (.slice e))
    (hI : (Tryz.prog.info? e).map (fun i => (i.zero, i.size, i.bytes)) = some (some z, sz, bytes)) (hzs : z.cells.size = sz) (hsz : 0 < sz) (hby : bytes ≤ 1024)
    {q : Nat} {W : World} (C : Array Value) (hC : C.size = sz) (h1 : ∀ u ∈ C.toList, u.oneCell' = true)
    (v : Value) (n : Nat) (xs : List Value) (hs : a.eval s = v) (hown : W.ownsRow q e sz v n xs) (hx : a.eval x = .slice (some ⟨W.heap.size, 0, none⟩) 1 1)
    (hn : n < 1000000000) (hq : q ≤ W.heap.size)
    (h : ∀ A c W', W'.ownsRow q e sz (.slice A (n + 1) c) (n + 1) (xs ++ C.toList) → W.grownBy W' v.ownBlock → wpList Tryz.prog ops Q rest (a.put o.dst (.slice A (n + 1) c)) W') :
    wpList Tryz.prog ops Q (o :: rest) a (W.alloc (.cells C e)) := by
  obtain ⟨i0, hi, hz0, hz1, hz2⟩ := info_parts hI
  refine wpList_append_own_at _ hgd s x t ho q e i0 z sz bytes ht hi hz0 hz1 hz2 hzs hsz v n xs hs (hown.alloc _) ⟨W.heap.size, 0, none⟩ 1 1 C.toList hx ?_ (o_cells C e) h1 ?_ ?_ ?_ ?_
  · rw [Nat.one_mul, ← hC]; rfl
  · unfold maxLen; omega
  · have : (n + 1) * bytes ≤ 1000000000 * 1024 := Nat.mul_le_mul (by omega) hby
    omega
  · rw [World.size_alloc]; omega
  intro v2 w2 hown2 hg2 _ _
  obtain ⟨A2, c2, rfl⟩ := o_slice hown2
  exact h A2 c2 w2 hown2 (grown_trans (World.grownBy_alloc _ _ _) hg2)

/-- Bytes as they lie in cells. -/
def u8V (l : List UInt8) : List Value := l.map fun b => .int .u8 (b.toNat : Int)
theorem u8V_length (l : List UInt8) : (u8V l).length = l.length := by simp [u8V]
theorem u8V_snoc (l : List UInt8) (b : UInt8) : u8V (l ++ [b]) = u8V l ++ [.int .u8 (b.toNat : Int)] := by simp [u8V]
theorem u8_info : (Tryz.prog.info? 5).map (fun i => (i.zero, i.size, i.bytes)) = some (some (.int .u8 0), 1, 1) := by kernel_rfl
/-- What is owned is read as a string. -/
theorem u8_conv {q n c : Nat} {A : Option Addr} {W : World} {xs : List UInt8} (h : W.ownsRow q 5 1 (.slice A n c) n (u8V xs)) (hx : 0 < xs.length) : (convert 82 9 (.slice A n c)).run Tryz.prog W = .ok (.string ⟨xs.toArray⟩) W := by
  have hl : xs.length = n := by have := h.1; rw [u8V_length, Nat.mul_one] at this; exact this
  rcases h.2 with ⟨_, h2⟩ | ⟨g, cap, cur, hv, hg, hk, hnc, _, hcs, hcur⟩
  · omega
  · cases hv
    have hs : (⟨xs.toArray⟩ : ByteArray).size = n := by rw [← hl]; exact List.size_toArray
    rw [← hs]
    refine Lib.run_convert_whole (P := Tryz.prog) _ 82 5 9 Tryz.underlying82 Tryz.underlying5 Tryz.underlying9 g 0 ⟨xs.toArray⟩ (fun i hi => ?_) _
    have hi' : i < xs.length := by rw [hl, ← hs]; exact hi
    have h1 := cell_of_row W g i _ _ _ hk
    have h2 : cur[i]? = (u8V xs)[i]? := by
      rw [← hcur, Nat.mul_one, List.getElem?_take_of_lt (by omega)]
      simp
    rw [h2] at h1
    rw [Nat.zero_add, h1]
    simp [u8V, hi', ByteArray.getElem_eq_getElem_data]

theorem u8_nil (W : World) : (convert 82 9 (.slice none 0 0)).run Tryz.prog W = .ok (.string ⟨#[]⟩) W := Lib.run_convert_nil_bytes W _ _ _ 0 Tryz.underlying82 Tryz.underlying5 Tryz.underlying9
theorem o_keep {W W' : World} {q e z n X : Nat} {v : Value} {xs : List Value} (h : W.ownsRow q e z v n xs) (hg : W.grownBy W' (some X)) (hX : X < q) : W'.ownsRow q e z v n xs := by
  refine h.kept hg ?_
  cases hv : v.ownBlock with
  | none => exact .inl rfl
  | some g => exact .inr (fun he => by have := o_from h g hv; have : g = X := Option.some.inj he; omega)

theorem q39 (t : List UInt8) : quotL (39 :: t) = some ([], t) := by cases t <;> rfl
theorem q10 (t : List UInt8) : quotL (10 :: t) = none := by cases t <;> rfl
theorem q92 (d : UInt8) (u : List UInt8) : quotL (92 :: d :: u) = if d == 110 || d == 39 || d == 92 then (quotL u).map fun p => ((if d == 110 then 10 else d) :: p.1, p.2) else none := by
  rw [quotL]
  rw [if_neg (by decide), if_neg (by decide), if_pos (by decide)]
theorem qother (c : UInt8) (t : List UInt8) (h1 : (c == 39) = false) (h2 : (c == 10) = false) (h3 : (c == 92) = false) : quotL (c :: t) = (quotL t).map fun p => (c :: p.1, p.2) := by
  cases t with
  | nil => simp [quotL, h1]
  | cons d u =>
    rw [quotL]
    simp [h1, h2, h3]
theorem index_esc (c : UInt8) : decide (Lib.indexByte [110, 39, 92] c < 0) = !(c == 110 || c == 39 || c == 92) := by
  simp only [Lib.indexByte]
  by_cases h1 : c = 110
  · subst h1; decide
  · by_cases h2 : c = 39
    · subst h2; decide
    · by_cases h3 : c = 92
      · subst h3; decide
      · have e1 : (110 == c) = false := by simpa using Ne.symm h1
        have e2 : (39 == c) = false := by simpa using Ne.symm h2
        have e3 : (92 == c) = false := by simpa using Ne.symm h3
        simp [e1, e2, e3, h1, h2, h3]
end Go.Proofs.YtminbdcabacfbaaGreatDoor.V

namespace Go.Proofs.YtminbdcabacfbaaGreatDoor.V
set_option linter.unusedVariables false
set_option linter.unusedSimpArgs false
open Go.RowKit

theorem byteN {c d : UInt8} {n : Int} (h : ((c.toNat : Int) == n) = true) (hd : (d.toNat : Int) = n) : c = d := by
  apply UInt8.toNat_inj.1
  have : (c.toNat : Int) = n := by simpa using h
  omega
theorem byteNot {c d : UInt8} {n : Int} (h : ((c.toNat : Int) == n) = false) (hd : (d.toNat : Int) = n) : (c == d) = false := by
  apply beq_eq_false_iff_ne.2
  rintro rfl
  rw [hd] at h
  simp at h

/-- What the scanner of a name in marks keeps, round by round. -/
structure QuotW (X : Nat) (s : ByteArray) (a k : Nat) (w W : World) (v : Value) (acc : List UInt8) : Prop where
  hx : IsText X s k W
  hk : IsTok w.heap.size (.int .i64 0) (.string ⟨#[]⟩) (.int .i64 0) (.bool false) (.int .i64 0) W
  ho : W.ownsRow (w.heap.size + 1) 5 1 v acc.length (u8V acc)
  hz : acc = [] → v = .slice none 0 0
  hn : acc.length ≤ k
  hg : w.grownBy W (some X)
  hq : quotL (s.data.toList.drop (a + 1)) = (quotL (s.data.toList.drop k)).map fun p => (acc ++ p.1, p.2)

theorem QuotW.conv {X : Nat} {s : ByteArray} {a k n c : Nat} {A : Option Addr} {w W W' : World} {acc : List UInt8} (h : QuotW X s a k w W (.slice A n c) acc) (hX : X < w.heap.size) (hg : W.grownBy W' (some X)) :
    (convert 82 9 (.slice A n c)).run Tryz.prog W' = .ok (.string ⟨acc.toArray⟩) W' := by
  by_cases he : acc = []
  · have hz := h.hz he
    cases hz
    rw [he]
    exact u8_nil W'
  · have ho := h.ho
    have hn : acc.length = n := by
      have := ho.1
      rcases ho.2 with ⟨hv, h2⟩ | ⟨g, cap, cur, hv, _⟩
      · cases hv
        omega
      · cases hv
        rfl
    rw [hn] at ho
    exact u8_conv (o_keep ho hg (by omega)) (by cases acc with | nil => exact absurd rfl he | cons => simp)
/-- A byte more. -/
theorem QuotW.more {X : Nat} {s : ByteArray} {a k k' k1 m c : Nat} {A : Option Addr} {b : UInt8} {w W W1 W2 W3 : World} {v : Value} {acc : List UInt8} (h : QuotW X s a k w W v acc) (hX : X < w.heap.size)
    (hg : W.grownBy W1 (some X)) (hT : IsText X s k1 W1) (ho : W2.ownsRow (w.heap.size + 1) 5 1 (.slice A m c) m (u8V acc ++ [.int .u8 (b.toNat : Int)])) (hm : m = acc.length + 1) (hg2 : W1.grownBy W2 v.ownBlock) (hW3 : W3 = W2.setCell ⟨X, 1, none⟩ (.int .i64 (k' : Int))) (hk : acc.length + 1 ≤ k')
    (hq : quotL (s.data.toList.drop k) = (quotL (s.data.toList.drop k')).map fun p => (b :: p.1, p.2)) : QuotW X s a k' w W3 (.slice A m c) (acc ++ [b]) := by
  subst hW3
  have ho1 : ∀ j, v.ownBlock = some j → w.heap.size + 1 ≤ j := fun j hj => o_from h.ho j hj
  have hXne : some X ≠ v.ownBlock := fun e => by have := ho1 X e.symm; omega
  have hKne : some w.heap.size ≠ v.ownBlock := fun e => by have := ho1 _ e.symm; omega
  have gW2 : w.grownBy W2 (some X) := o_grown (grown_trans h.hg hg) hg2 (fun j hj => by have := ho1 j hj; omega)
  exact
    { hx := (hT.grown hg2 hXne).set k'
      hk := ((h.hk.grown hg (by simp; omega)).grown hg2 hKne).grown (grown_set (World.grownBy.refl W2 (some X)) _ _) (by simp; omega)
      ho := by
        rw [List.length_append, List.length_singleton, u8V_snoc, ← hm]
        exact o_keep ho (grown_set (World.grownBy.refl W2 (some X)) _ _) (by omega)
      hz := fun e => by simp at e
      hn := by simpa using hk
      hg := grown_set gW2 _ _
      hq := by
        rw [h.hq, hq]
        cases quotL (s.data.toList.drop k') <;> simp }

set_option maxRecDepth 100000 in
set_option maxHeartbeats 8000000 in
theorem quoted_calls (X : Nat) (s : ByteArray) (a : Nat) (w : World) (hT : IsText X s a w) (ha : a < s.size) (hs : s.size ≤ 65536) :
    Calls Tryz.prog 130 #[.pointer (some ⟨X, 0, none⟩)] w (OneIs X s (qres (quotL (s.data.toList.drop (a + 1)))) w) := by
  have hlt := hT.lt
  have hx := hT.grown (World.grownBy_alloc w (.cells #[.int .i64 0, .string ⟨#[]⟩, .int .i64 0, .bool false, .int .i64 0] 71) none) (by simp)
  have x0 := hx.cell0
  have x1 := hx.cell1
  have xf := hx.free 1
  have HT := Lib.hid hT
  have HLT := Lib.hid hlt
  clear hT hx
  have HS := Lib.hid (show QuotW X s a (a + 1) w ((w.setCell ⟨X, 1, none⟩ (.int .i64 ((a + 1 : Nat) : Int))).alloc (.cells #[.int .i64 0, .string ⟨#[]⟩, .int .i64 0, .bool false, .int .i64 0] 71)) (.slice none 0 0) [] from
    { hx := (HT.out.set (a + 1)).grown (World.grownBy_alloc _ _ none) (by simp)
      hk := by
        have := IsTok.new (v0 := .int .i64 0) (v1 := .string ⟨#[]⟩) (v2 := .int .i64 0) (v3 := .bool false) (v4 := .int .i64 0) (w.setCell ⟨X, 1, none⟩ (.int .i64 ((a + 1 : Nat) : Int)))
        rwa [show (w.setCell ⟨X, 1, none⟩ (.int .i64 ((a + 1 : Nat) : Int))).heap.size = w.heap.size by simp [World.setCell]] at this
      ho := World.ownsRow_nil _ _ _ _
      hz := fun _ => rfl
      hn := Nat.zero_le _
      hg := grown_trans (grown_set (World.grownBy.refl _ _) _ _) (World.grownBy_alloc _ _ _)
      hq := by simp })
  go_enter Tryz.func130, Tryz.ntmps130
  go_wp2_with fail
  go_loopw [4, 5] (fun v c wr => ∃ k acc, k ≤ s.size ∧ QuotW X s a k w wr v acc) (fun _ _ wr => s.size - textAt X wr)
  case atStart => exact ⟨a + 1, [], ha, HS.out⟩
  case round =>
    obtain ⟨k, acc, hk, hW⟩ := hrel
    obtain ⟨A, c, rfl⟩ := o_slice hW.ho
    have HW := Lib.hid hW
    have c0 := hW.hx.cell0
    have c1 := hW.hx.cell1
    have cf := hW.hx.free 1
    have k0 := hW.hk.c0; have k1 := hW.hk.c1; have k2 := hW.hk.c2; have k3 := hW.hk.c3; have k4 := hW.hk.c4
    have l0 := hW.hk.fr 0; have l1 := hW.hk.fr 1; have l2 := hW.hk.fr 2; have l3 := hW.hk.fr 3; have l4 := hW.hk.fr 4
    have HK := Lib.hid hk
    clear hW x0 x1 xf
    by_cases hkl : k < s.size
    · have hd : decide ((k : Int) < (s.size : Int)) = true := decide_eq_true (by omega)
      have HDR := Lib.hid (drop_at hkl)
      cases h39 : (((s[k]'hkl).toNat : Int) == 39) with
      | true =>
        have HQ := Lib.hid (show quotL (s.data.toList.drop k) = some ([], s.data.toList.drop (k + 1)) by rw [HDR.out, byteN (d := 39) h39 (by decide), q39])
        have hcv : (convert 82 9 (.slice A acc.length c)).run Tryz.prog (wr.setCell ⟨X, 1, none⟩ (.int .i64 ((k : Int) + 1))).drew.drew = .ok (.string ⟨acc.toArray⟩) (wr.setCell ⟨X, 1, none⟩ (.int .i64 ((k : Int) + 1))).drew.drew := HW.out.conv HLT.out (grown_drew (grown_drew (grown_set (World.grownBy.refl wr (some X)) 1 (.int .i64 ((k : Int) + 1)))))
        go_wp2_with fail
        go_region
        go_wp2_with fail
        go_region
        go_wp2_with fail
        have hset := (HW.out.hk.grown (grown_set (World.grownBy.refl wr (some X)) 1 (.int .i64 ((k : Int) + 1))) (by have := HLT.out; simp; omega)).set (.int .i64 1) (.string ⟨acc.toArray⟩) (.int .i64 0) (.bool true) (.int .i64 0)
        have r0 := hset.c0; have r1 := hset.c1; have r2 := hset.c2; have r3 := hset.c3; have r4 := hset.c4
        refine bodyPost_ret (v := .tuple #[.agg #[.int .i64 1, .string ⟨acc.toArray⟩, .int .i64 0, .bool true, .int .i64 0], .int .i64 0]) (by simp [results, Tryz.results130, go_sem, r0, r1, r2, r3, r4]) rfl ⟨grown_drew (grown_drew (grown_tokSet (grown_trans HW.out.hg (grown_set (World.grownBy.refl wr (some X)) 1 (.int .i64 ((k : Int) + 1)))) (Nat.le_refl _) _ _ _ _ _)), ?_⟩
        rw [HW.out.hq, HQ.out]
        exact ⟨by simp [tokV], k + 1, hkl, rfl, ((HW.out.hx.set (k + 1)).tokSet (by have := HLT.out; omega) _ _ _ _ _).drew.drew⟩
      | false =>
        have H39 := Lib.hid (byteNot (d := 39) h39 (by decide))
        cases h10 : (((s[k]'hkl).toNat : Int) == 10) with
        | true =>
          have HQ := Lib.hid (show quotL (s.data.toList.drop k) = none by rw [HDR.out, byteN (d := 10) h10 (by decide), q10])
          go_wp2_with fail
          go_region
          go_wp2_with fail
          go_region
          go_wp2_with fail
          have hset := (HW.out.hk.grown (World.grownBy.refl wr (some X)) (by have := HLT.out; simp; omega)).set (.int .i64 0) (.string ⟨#[]⟩) (.int .i64 0) (.bool false) (.int .i64 0)
          have r0 := hset.c0; have r1 := hset.c1; have r2 := hset.c2; have r3 := hset.c3; have r4 := hset.c4
          refine bodyPost_ret (v := .tuple #[.agg #[.int .i64 0, .string ⟨#[]⟩, .int .i64 0, .bool false, .int .i64 0], .int .i64 2]) (by simp [results, Tryz.results130, go_sem, r0, r1, r2, r3, r4]) rfl ⟨(grown_drew (grown_drew (grown_tokSet (grown_trans HW.out.hg (World.grownBy.refl wr (some X))) (Nat.le_refl _) _ _ _ _ _))), ?_⟩
          rw [HW.out.hq, HQ.out]
          exact ⟨rfl, _, (HW.out.hx.tokSet (by have := HLT.out; omega) _ _ _ _ _).drew.drew⟩
        | false =>
          have H10 := Lib.hid (byteNot (d := 10) h10 (by decide))
          cases h92 : (((s[k]'hkl).toNat : Int) == 92) with
          | true =>
            have H92 := Lib.hid (byteN (d := 92) h92 (by decide))
            by_cases hk2 : k + 1 < s.size
            · have he : (((k : Int) + 1) == (s.size : Int)) = false := by simpa using (by omega : ¬ (k : Int) + 1 = (s.size : Int))
              have HDR2 := Lib.hid (drop_at hk2)
              obtain ⟨J, hJ⟩ : ∃ J, Lib.indexByte [110, 39, 92] ((s[k + 1]'hk2).toNat : Int).toNat.toUInt8 = J := ⟨_, rfl⟩
              have hJ2 : decide (J < 0) = !(s[k + 1] == 110 || s[k + 1] == 39 || s[k + 1] == 92) := by
                rw [← hJ, ← index_esc]
                simp
              have HJ := Lib.hid hJ
              clear hJ
              have C0 := Lib.hid (show (wr.setCell ⟨X, 1, none⟩ (.int .i64 ((k : Int) + 1))).cell? ⟨X, 0, none⟩ = some (.string s) from (HW.out.hx.set (k + 1)).cell0)
              have C1 := Lib.hid (show (wr.setCell ⟨X, 1, none⟩ (.int .i64 ((k : Int) + 1))).cell? ⟨X, 1, none⟩ = some (.int .i64 ((k : Int) + 1)) from (HW.out.hx.set (k + 1)).cell1)
              cases hin : (s[k + 1] == 110 || s[k + 1] == 39 || s[k + 1] == 92) with
              | false =>
                rw [hin] at hJ2
                have hJ3 : decide (J < 0) = true := hJ2
                have HQ := Lib.hid (show quotL (s.data.toList.drop k) = none by rw [HDR.out, H92.out, HDR2.out, q92, hin]; rfl)
                clear hJ2 hin
                go_wp2_with fail
                go_region
                go_wp2_with fail
                go_region
                go_wp2_with fail
                go_region_held3 (fun W => W.cell? ⟨X, 0, none⟩ = some (.string s) ∧ W.cell? ⟨X, 1, none⟩ = some (.int .i64 ((k : Int) + 1)))
                  ((go_split_ands; refine ⟨?_, ?_⟩; (focus (first | with_reducible assumption | (refine cell_below (w := wr.setCell ⟨X, 1, none⟩ (.int .i64 ((k : Int) + 1))) ?_ C0.out; (focus (repeat (first | with_reducible assumption | with_reducible exact Below.refl _ _ | with_reducible apply Below.drew)))))); (focus (first | with_reducible assumption | (refine cell_below (w := wr.setCell ⟨X, 1, none⟩ (.int .i64 ((k : Int) + 1))) ?_ C1.out; (focus (repeat (first | with_reducible assumption | with_reducible exact Below.refl _ _ | with_reducible apply Below.drew))))))))
                  (first
                    | (go_at_call 155; (with_reducible refine (Tryz.strings_IndexByte _ _ _).mono ?_); rintro e w' ⟨rfl, hw⟩; rw [hw, HJ.out]; clear hw))
                go_wp2_with fail
                have hset := (HW.out.hk.grown (grown_set (World.grownBy.refl wr (some X)) 1 (.int .i64 ((k : Int) + 1))) (by have := HLT.out; simp; omega)).set (.int .i64 0) (.string ⟨#[]⟩) (.int .i64 0) (.bool false) (.int .i64 0)
                have r0 := hset.c0; have r1 := hset.c1; have r2 := hset.c2; have r3 := hset.c3; have r4 := hset.c4
                refine bodyPost_ret (v := .tuple #[.agg #[.int .i64 0, .string ⟨#[]⟩, .int .i64 0, .bool false, .int .i64 0], .int .i64 2]) (by simp [results, Tryz.results130, go_sem, r0, r1, r2, r3, r4]) rfl ⟨(grown_drew (grown_drew (grown_drew (grown_tokSet (grown_trans HW.out.hg (grown_set (World.grownBy.refl wr (some X)) 1 (.int .i64 ((k : Int) + 1)))) (Nat.le_refl _) _ _ _ _ _)))), ?_⟩
                rw [HW.out.hq, HQ.out]
                exact ⟨rfl, _, ((HW.out.hx.set (k + 1)).tokSet (by have := HLT.out; omega) _ _ _ _ _).drew.drew.drew⟩
              | true =>
                rw [hin] at hJ2
                have hJ3 : decide (J < 0) = false := hJ2
                clear hJ2
                cases h110 : (((s[k + 1]'hk2).toNat : Int) == 110) with
                | true =>
                  have HQ := Lib.hid (show quotL (s.data.toList.drop k) = (quotL (s.data.toList.drop (k + 2))).map fun p => ((10 : UInt8) :: p.1, p.2) by
                    rw [HDR.out, H92.out, HDR2.out, q92, hin, if_pos rfl, byteN (d := 110) h110 (by decide)]
                    rfl)
                  clear hin
                  go_wp2_with fail
                  go_region
                  go_wp2_with fail
                  go_region
                  go_wp2_with fail
                  go_region_held3 (fun W => W.cell? ⟨X, 0, none⟩ = some (.string s) ∧ W.cell? ⟨X, 1, none⟩ = some (.int .i64 ((k : Int) + 1)))
                    ((go_split_ands; refine ⟨?_, ?_⟩; (focus (first | with_reducible assumption | (refine cell_below (w := wr.setCell ⟨X, 1, none⟩ (.int .i64 ((k : Int) + 1))) ?_ C0.out; (focus (repeat (first | with_reducible assumption | with_reducible exact Below.refl _ _ | with_reducible apply Below.drew)))))); (focus (first | with_reducible assumption | (refine cell_below (w := wr.setCell ⟨X, 1, none⟩ (.int .i64 ((k : Int) + 1))) ?_ C1.out; (focus (repeat (first | with_reducible assumption | with_reducible exact Below.refl _ _ | with_reducible apply Below.drew))))))))
                    (first
                      | (go_at_call 155; (with_reducible refine (Tryz.strings_IndexByte _ _ _).mono ?_); rintro e w' ⟨rfl, hw⟩; rw [hw, HJ.out]; clear hw))
                  go_wp2_with fail
                  go_region
                  go_wp2_with (at_builtin; refine RowKit.Hid.out ?_)
                  refine Lib.hid ?_
                  refine o_app (W := (wr.setCell ⟨X, 1, none⟩ (.int .i64 ((k : Int) + 1))).drew.drew.drew.drew) rfl (.tmp 101) (.tmp 103) 82 5 rfl (.int .u8 0) 1 1 Tryz.underlying82 u8_info rfl (by decide) (by decide) #[.int .u8 ((10 : UInt8).toNat : Int)] rfl (by intro u hu; simp at hu; subst hu; rfl) (.slice A acc.length c) acc.length (u8V acc) (by rfl) (o_keep HW.out.ho (grown_drew (grown_drew (grown_drew (grown_drew (grown_set (World.grownBy.refl wr (some X)) 1 (.int .i64 ((k : Int) + 1))))))) (by have := HLT.out; omega)) (by first | rfl | (show (Value.slice (some ⟨wr.heap.size, 0, none⟩) 1 1) = _; simp [World.setCell, World.drew])) (by have := HW.out.hn; omega) (by have := HW.out.hk; have := (Array.getElem?_eq_some_iff.1 this).1; simp; omega) ?_
                  intro A2 c2 W2 ho2 hg2
                  have hX2 : some X ≠ Value.ownBlock (.slice A acc.length c) := fun e => by have := o_from HW.out.ho X e.symm; have := HLT.out; omega
                  have ht2 := ((HW.out.hx.set (k + 1)).drew.drew.drew.drew).grown hg2 hX2
                  have d0 := ht2.cell0
                  have d1 := ht2.cell1
                  have df := ht2.free 1
                  have HT2 := Lib.hid ht2
                  have HO2 := Lib.hid ho2
                  have HG2 := Lib.hid hg2
                  clear ht2 ho2 hg2 hX2 c0 c1 cf
                  go_wp2_with fail
                  go_roundw
                  case rel => exact ⟨(k + 1) + 1, acc ++ [10], (by omega), HW.out.more HLT.out (grown_drew (grown_drew (grown_drew (grown_drew (grown_set (World.grownBy.refl wr (some X)) 1 (.int .i64 ((k : Int) + 1))))))) ((HW.out.hx.set (k + 1)).drew.drew.drew.drew) HO2.out rfl HG2.out rfl (by have := HW.out.hn; omega) HQ.out⟩
                  case measure =>
                    refine Nat.lt_of_le_of_lt (Nat.le_of_eq (congrArg (s.size - ·) (HT2.out.set ((k + 1) + 1)).textAt)) ?_
                    rw [HW.out.hx.textAt]
                    omega
                | false =>
                  have H110 := Lib.hid (byteNot (d := 110) h110 (by decide))
                  have HQ := Lib.hid (show quotL (s.data.toList.drop k) = (quotL (s.data.toList.drop (k + 2))).map fun p => (s[k + 1] :: p.1, p.2) by
                    rw [HDR.out, H92.out, HDR2.out, q92, hin, if_pos rfl, H110.out]
                    rfl)
                  clear hin
                  go_wp2_with fail
                  go_region
                  go_wp2_with fail
                  go_region
                  go_wp2_with fail
                  go_region_held3 (fun W => W.cell? ⟨X, 0, none⟩ = some (.string s) ∧ W.cell? ⟨X, 1, none⟩ = some (.int .i64 ((k : Int) + 1)))
                    ((go_split_ands; refine ⟨?_, ?_⟩; (focus (first | with_reducible assumption | (refine cell_below (w := wr.setCell ⟨X, 1, none⟩ (.int .i64 ((k : Int) + 1))) ?_ C0.out; (focus (repeat (first | with_reducible assumption | with_reducible exact Below.refl _ _ | with_reducible apply Below.drew)))))); (focus (first | with_reducible assumption | (refine cell_below (w := wr.setCell ⟨X, 1, none⟩ (.int .i64 ((k : Int) + 1))) ?_ C1.out; (focus (repeat (first | with_reducible assumption | with_reducible exact Below.refl _ _ | with_reducible apply Below.drew))))))))
                    (first
                      | (go_at_call 155; (with_reducible refine (Tryz.strings_IndexByte _ _ _).mono ?_); rintro e w' ⟨rfl, hw⟩; rw [hw, HJ.out]; clear hw))
                  go_wp2_with fail
                  go_region
                  go_wp2_with (at_builtin; refine RowKit.Hid.out ?_)
                  refine Lib.hid ?_
                  refine o_app (W := (wr.setCell ⟨X, 1, none⟩ (.int .i64 ((k : Int) + 1))).drew.drew.drew.drew) rfl (.tmp 101) (.tmp 103) 82 5 rfl (.int .u8 0) 1 1 Tryz.underlying82 u8_info rfl (by decide) (by decide) #[.int .u8 ((s[k + 1]'hk2).toNat : Int)] rfl (by intro u hu; simp at hu; subst hu; rfl) (.slice A acc.length c) acc.length (u8V acc) (by rfl) (o_keep HW.out.ho (grown_drew (grown_drew (grown_drew (grown_drew (grown_set (World.grownBy.refl wr (some X)) 1 (.int .i64 ((k : Int) + 1))))))) (by have := HLT.out; omega)) (by first | rfl | (show (Value.slice (some ⟨wr.heap.size, 0, none⟩) 1 1) = _; simp [World.setCell, World.drew])) (by have := HW.out.hn; omega) (by have := HW.out.hk; have := (Array.getElem?_eq_some_iff.1 this).1; simp; omega) ?_
                  intro A2 c2 W2 ho2 hg2
                  have hX2 : some X ≠ Value.ownBlock (.slice A acc.length c) := fun e => by have := o_from HW.out.ho X e.symm; have := HLT.out; omega
                  have ht2 := ((HW.out.hx.set (k + 1)).drew.drew.drew.drew).grown hg2 hX2
                  have d0 := ht2.cell0
                  have d1 := ht2.cell1
                  have df := ht2.free 1
                  have HT2 := Lib.hid ht2
                  have HO2 := Lib.hid ho2
                  have HG2 := Lib.hid hg2
                  clear ht2 ho2 hg2 hX2 c0 c1 cf
                  go_wp2_with fail
                  go_roundw
                  case rel => exact ⟨(k + 1) + 1, acc ++ [s[k + 1]], (by omega), HW.out.more HLT.out (grown_drew (grown_drew (grown_drew (grown_drew (grown_set (World.grownBy.refl wr (some X)) 1 (.int .i64 ((k : Int) + 1))))))) ((HW.out.hx.set (k + 1)).drew.drew.drew.drew) HO2.out rfl HG2.out rfl (by have := HW.out.hn; omega) HQ.out⟩
                  case measure =>
                    refine Nat.lt_of_le_of_lt (Nat.le_of_eq (congrArg (s.size - ·) (HT2.out.set ((k + 1) + 1)).textAt)) ?_
                    rw [HW.out.hx.textAt]
                    omega
            · have he : (((k : Int) + 1) == (s.size : Int)) = true := by simpa using (by omega : (k : Int) + 1 = (s.size : Int))
              have HQ := Lib.hid (show quotL (s.data.toList.drop k) = none by rw [HDR.out, H92.out, drop_end (by omega)]; rfl)
              go_wp2_with fail
              go_region
              go_wp2_with fail
              go_region
              go_wp2_with fail
              go_region
              go_wp2_with fail
              have hset := (HW.out.hk.grown (grown_set (World.grownBy.refl wr (some X)) 1 (.int .i64 ((k : Int) + 1))) (by have := HLT.out; simp; omega)).set (.int .i64 0) (.string ⟨#[]⟩) (.int .i64 0) (.bool false) (.int .i64 0)
              have r0 := hset.c0; have r1 := hset.c1; have r2 := hset.c2; have r3 := hset.c3; have r4 := hset.c4
              refine bodyPost_ret (v := .tuple #[.agg #[.int .i64 0, .string ⟨#[]⟩, .int .i64 0, .bool false, .int .i64 0], .int .i64 2]) (by simp [results, Tryz.results130, go_sem, r0, r1, r2, r3, r4]) rfl ⟨(grown_drew (grown_drew (grown_drew (grown_tokSet (grown_trans HW.out.hg (grown_set (World.grownBy.refl wr (some X)) 1 (.int .i64 ((k : Int) + 1)))) (Nat.le_refl _) _ _ _ _ _)))), ?_⟩
              rw [HW.out.hq, HQ.out]
              exact ⟨rfl, _, ((HW.out.hx.set (k + 1)).tokSet (by have := HLT.out; omega) _ _ _ _ _).drew.drew.drew⟩
          | false =>
            have HQ := Lib.hid (show quotL (s.data.toList.drop k) = (quotL (s.data.toList.drop (k + 1))).map fun p => (s[k] :: p.1, p.2) by rw [HDR.out, qother _ _ H39.out H10.out (byteNot (d := 92) h92 (by decide))])
            go_wp2_with fail
            go_region
            go_wp2_with fail
            go_region
            go_wp2_with (at_builtin; refine RowKit.Hid.out ?_)
            refine Lib.hid ?_
            refine o_app (W := wr.drew.drew) rfl (.tmp 101) (.tmp 103) 82 5 rfl (.int .u8 0) 1 1 Tryz.underlying82 u8_info rfl (by decide) (by decide) #[.int .u8 ((s[k]'hkl).toNat : Int)] rfl (by intro u hu; simp at hu; subst hu; rfl) (.slice A acc.length c) acc.length (u8V acc) (by rfl) (o_keep HW.out.ho (grown_drew (grown_drew (World.grownBy.refl wr (some X)))) (by have := HLT.out; omega)) (by first | rfl | (show (Value.slice (some ⟨wr.heap.size, 0, none⟩) 1 1) = _; simp [World.setCell, World.drew])) (by have := HW.out.hn; omega) (by have := HW.out.hk; have := (Array.getElem?_eq_some_iff.1 this).1; simp; omega) ?_
            intro A2 c2 W2 ho2 hg2
            have hX2 : some X ≠ Value.ownBlock (.slice A acc.length c) := fun e => by have := o_from HW.out.ho X e.symm; have := HLT.out; omega
            have ht2 := (HW.out.hx.drew.drew).grown hg2 hX2
            have d0 := ht2.cell0
            have d1 := ht2.cell1
            have df := ht2.free 1
            have HT2 := Lib.hid ht2
            have HO2 := Lib.hid ho2
            have HG2 := Lib.hid hg2
            clear ht2 ho2 hg2 hX2 c0 c1 cf
            go_wp2_with fail
            go_roundw
            case rel => exact ⟨k + 1, acc ++ [s[k]], hkl, HW.out.more HLT.out (grown_drew (grown_drew (World.grownBy.refl wr (some X)))) (HW.out.hx.drew.drew) HO2.out rfl HG2.out rfl (by have := HW.out.hn; omega) HQ.out⟩
            case measure =>
              refine Nat.lt_of_le_of_lt (Nat.le_of_eq (congrArg (s.size - ·) (HT2.out.set (k + 1)).textAt)) ?_
              rw [HW.out.hx.textAt]
              omega
    · have hd : decide ((k : Int) < (s.size : Int)) = false := decide_eq_false (by omega)
      have HQ := Lib.hid (show quotL (s.data.toList.drop k) = none by rw [drop_end (by omega)]; rfl)
      go_wp2_with fail
      go_region
      go_wp2_with fail
      have hset := (HW.out.hk.grown (World.grownBy.refl wr (some X)) (by have := HLT.out; simp; omega)).set (.int .i64 0) (.string ⟨#[]⟩) (.int .i64 0) (.bool false) (.int .i64 0)
      have r0 := hset.c0; have r1 := hset.c1; have r2 := hset.c2; have r3 := hset.c3; have r4 := hset.c4
      refine bodyPost_ret (v := .tuple #[.agg #[.int .i64 0, .string ⟨#[]⟩, .int .i64 0, .bool false, .int .i64 0], .int .i64 2]) (by simp [results, Tryz.results130, go_sem, r0, r1, r2, r3, r4]) rfl ⟨(grown_drew (grown_tokSet (grown_trans HW.out.hg (World.grownBy.refl wr (some X))) (Nat.le_refl _) _ _ _ _ _)), ?_⟩
      rw [HW.out.hq, HQ.out]
      exact ⟨rfl, _, (HW.out.hx.tokSet (by have := HLT.out; omega) _ _ _ _ _).drew⟩
end Go.Proofs.YtminbdcabacfbaaGreatDoor.V
