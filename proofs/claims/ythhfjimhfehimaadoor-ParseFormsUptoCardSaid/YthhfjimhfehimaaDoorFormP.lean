/- What is scanned, and what is parsed, has its forms: with no program in sight. -/
import Derived.Test.YthhfjimhfehimaaDoorPar
namespace Go.Proofs.YthhfjimhfehimaaDoor.V
set_option linter.unusedVariables false
set_option linter.unusedSimpArgs false

/-- A token as it may be. -/
def TokOk (t : Tok) : Prop :=
  (t.k = 1 ∧ t.n = 0 ∧ (t.q = true ∨ (∃ c u, t.s = c :: u ∧ ofB sml c = true) ∧ t.s.length ≤ 32)) ∨
  (t.k = 2 ∧ t.n = 0 ∧ t.q = false ∧ (∃ c u, t.s = c :: u ∧ ofB bgI c = true) ∧ t.s.length ≤ 32) ∨
  (t.k = 3 ∧ t.q = false ∧ t.s = []) ∨
  (t.k = 4 ∧ t.n = 0 ∧ t.q = false ∧ (t.s.length = 1 ∨ t.s.length = 2))

theorem markTwo_len (l : List UInt8) (h : markTwo l = true) : 2 ≤ l.length := by
  unfold markTwo at h
  match l, h with
  | [], h => simp [List.isPrefixOf] at h
  | [a], h => simp [List.isPrefixOf] at h
  | a :: b :: u, h => simp
theorem oneL_ok (c : UInt8) (t : List UInt8) (k : Tok) (r : List UInt8) (h : oneL c t = .tok k r) : TokOk k := by
  have hn : ∀ kk, (namedL kk (c :: t) = .tok k r) → ofB wrdI c = true → k.k = kk ∧ k.n = 0 ∧ k.q = false ∧ (∃ u, k.s = c :: u) ∧ k.s.length ≤ 32 := by
    intro kk h hc
    unfold namedL at h
    split at h
    · simp at h
    · rename_i hl
      simp only [Got.tok.injEq] at h
      obtain ⟨rfl, _⟩ := h
      refine ⟨rfl, rfl, rfl, ⟨t.takeWhile (ofB wrdI), ?_⟩, by simpa using hl⟩
      exact List.takeWhile_cons_of_pos hc
  unfold oneL at h
  split at h
  · rename_i hs
    obtain ⟨h1, h2, h3, ⟨u, h4⟩, h5⟩ := hn 1 h (by simp_all [ofB, wrdI])
    exact .inl ⟨h1, h2, .inr ⟨⟨c, u, h4, hs⟩, h5⟩⟩
  · split at h
    · rename_i hs
      obtain ⟨h1, h2, h3, ⟨u, h4⟩, h5⟩ := hn 2 h (by simp_all [ofB, wrdI])
      exact .inr (.inl ⟨h1, h2, h3, ⟨c, u, h4, hs⟩, h5⟩)
    · split at h
      · unfold numL at h
        split at h
        · simp only [Got.tok.injEq] at h
          obtain ⟨rfl, _⟩ := h
          exact .inr (.inr (.inl ⟨rfl, rfl, rfl⟩))
        · simp at h
      · split at h
        · unfold qres at h
          split at h
          · simp only [Got.tok.injEq] at h
            obtain ⟨rfl, _⟩ := h
            exact .inl ⟨rfl, rfl, .inl rfl⟩
          · simp at h
        · unfold markL at h
          split at h
          · rename_i hm
            have := markTwo_len _ hm
            simp only [Got.tok.injEq] at h
            obtain ⟨rfl, _⟩ := h
            exact .inr (.inr (.inr ⟨rfl, rfl, rfl, .inr (by simp at this ⊢; omega)⟩))
          · split at h
            · simp only [Got.tok.injEq] at h
              obtain ⟨rfl, _⟩ := h
              exact .inr (.inr (.inr ⟨rfl, rfl, rfl, .inl (by simp)⟩))
            · simp at h
theorem scanT_ok (N : Nat) : ∀ (n : Nat) (l : List UInt8), l.length ≤ n → ∀ L, scanT N l = .ok L → ∀ p ∈ L, TokOk p.1 := by
  intro n
  induction n with
  | zero =>
    intro l hl L h
    match l, hl with
    | [], _ =>
      rw [scanT_nil N [] rfl] at h
      injection h with h
      subst h
      intro p hp
      cases hp
  | succ n ih =>
    intro l hl L h
    cases hs : skipR false l with
    | nil =>
      rw [scanT_nil N l hs] at h
      injection h with h
      subst h
      intro p hp
      cases hp
    | cons c t =>
      cases ho : oneL c t with
      | bad e => rw [scanT_bad N l c t e hs ho] at h; cases h
      | tok k r =>
        rw [scanT_tok N l c t k r hs ho] at h
        have h1 := skipR_le l false
        have h2 := oneL_lt c t k r ho
        rw [hs] at h1
        cases hr : scanT N r with
        | bad a e => rw [hr] at h; cases h
        | ok R =>
          rw [hr] at h
          simp only [Scan.cons, Scan.ok.injEq] at h
          subst h
          intro p hp
          rcases List.mem_cons.1 hp with rfl | hp
          · exact oneL_ok c t k r ho
          · exact ih r (by omega) R hr p hp
theorem scanL_ok (s : List UInt8) (L : List TP) (h : scanL s = .ok L) : ∀ p ∈ L, TokOk p.1 := by
  unfold scanL at h
  split at h
  · cases h
  · exact scanT_ok s.length s.length s (Nat.le_refl _) L h

/-- A term, an atom, a literal, a rule, as they may be. -/
def OneOk (x : TermL) : Prop := (x.v = true ∧ (∃ c u, x.x = c :: u ∧ ofB bgI c = true) ∧ x.s = false ∧ x.t = [] ∧ x.n = 0) ∨ (x.v = false ∧ x.x = [] ∧ ((x.s = true ∧ x.n = 0) ∨ (x.s = false ∧ x.t = [])))
def FineOk (a : AtomL) : Prop := plainL a.p = true ∧ a.p.length ≤ 32 ∧ a.a.length ≤ 6 ∧ ∀ x ∈ a.a, OneOk x
def LitOk (l : LitL) : Prop := (l.k = 3 ∧ l.o ≠ [] ∧ OneOk l.l ∧ OneOk l.r ∧ l.a = atom0) ∨ ((l.k = 1 ∨ l.k = 2) ∧ l.o = [] ∧ FineOk l.a)
def RuleOk (r : RuleL) : Prop := FineOk r.h ∧ r.b.length ≤ 8 ∧ ∀ l ∈ r.b, LitOk l
def AllOk (r : List TP) : Prop := ∀ p ∈ r, TokOk p.1

theorem AllOk.tail {r : List TP} (h : AllOk r) : AllOk r.tail := fun p hp => h p (List.mem_of_mem_tail hp)
theorem AllOk.pk {r : List TP} {N i : Nat} (h : AllOk r) (hk : (pk N r i).1.k ≠ 0) : TokOk (pk N r i).1 := by
  unfold V.pk at hk ⊢
  cases hi : r[i]? with
  | none => rw [hi] at hk; exact absurd rfl hk
  | some p => exact h p (List.mem_of_getElem? hi)
theorem nameP_ok {N : Nat} {r r1 : List TP} {p : List UInt8} (hr : AllOk r) (h : nameP N r = .ok p r1) : plainL p = true ∧ p.length ≤ 32 ∧ AllOk r1 := by
  unfold nameP at h
  split at h
  · rename_i hc
    simp only [Par.ok.injEq] at h
    obtain ⟨rfl, rfl⟩ := h
    simp only [Bool.and_eq_true, beq_iff_eq, Bool.not_eq_true'] at hc
    obtain ⟨⟨h1, h2⟩, h3⟩ := hc
    refine ⟨h3, ?_, hr.tail⟩
    have hk := hr.pk (N := N) (i := 0) (by omega)
    rcases hk with ⟨_, _, h | h⟩ | h | h | h
    · rw [h2] at h; cases h
    · exact h.2
    · omega
    · omega
    · omega
  · simp at h
theorem termP_ok {N : Nat} {r r1 : List TP} {x : TermL} (hr : AllOk r) (h : termP N r = .ok x r1) : OneOk x ∧ AllOk r1 := by
  unfold termP at h
  split at h
  · rename_i hc
    simp only [beq_iff_eq] at hc
    simp only [Par.ok.injEq] at h
    obtain ⟨rfl, rfl⟩ := h
    refine ⟨.inl ⟨rfl, ?_, rfl, rfl, rfl⟩, hr.tail⟩
    have hk := hr.pk (N := N) (i := 0) (by omega)
    rcases hk with h | h | h | h
    · omega
    · exact h.2.2.2.1
    · omega
    · omega
  · split at h
    · simp only [Par.ok.injEq] at h
      obtain ⟨rfl, rfl⟩ := h
      exact ⟨.inr ⟨rfl, rfl, .inr ⟨rfl, rfl⟩⟩, hr.tail⟩
    · split at h
      · simp only [Par.ok.injEq] at h
        obtain ⟨rfl, rfl⟩ := h
        exact ⟨.inr ⟨rfl, rfl, .inl ⟨rfl, rfl⟩⟩, hr.tail⟩
      · simp at h
theorem someP_ok {α : Type} {one : List TP → Par α} {N : Nat} {Q : α → Prop} (ho : ∀ r x r1, AllOk r → one r = .ok x r1 → Q x ∧ AllOk r1) :
    ∀ (m : Nat) (r : List TP) (xs : List α) (r1 : List TP), AllOk r → someP one N m r = .ok xs r1 → xs.length ≤ m ∧ (∀ x ∈ xs, Q x) ∧ AllOk r1 := by
  intro m
  induction m with
  | zero => intro r xs r1 _ h; simp [someP] at h
  | succ m ih =>
    intro r xs r1 hr h
    unfold someP at h
    split at h
    · simp at h
    · rename_i x r2 h2
      obtain ⟨hq, h2'⟩ := ho _ _ _ hr h2
      split at h
      · split at h
        · simp at h
        · rename_i ys r3 h3
          obtain ⟨k1, k2, k3⟩ := ih _ _ _ h2'.tail h3
          simp only [Par.ok.injEq] at h
          obtain ⟨rfl, rfl⟩ := h
          refine ⟨by simp; omega, ?_, k3⟩
          intro y hy
          rcases List.mem_cons.1 hy with rfl | hy
          · exact hq
          · exact k2 y hy
      · simp only [Par.ok.injEq] at h
        obtain ⟨rfl, rfl⟩ := h
        exact ⟨by simp, by simpa using hq, h2'⟩
theorem markP_ok {α : Type} {N : Nat} {m : List UInt8} {x y : α} {r r1 : List TP} (hr : AllOk r) (h : markP N m x r = .ok y r1) : y = x ∧ AllOk r1 := by
  unfold markP at h
  split at h
  · simp only [Par.ok.injEq] at h
    obtain ⟨rfl, rfl⟩ := h
    exact ⟨rfl, hr.tail⟩
  · simp at h
theorem atomP_ok {N : Nat} {r r1 : List TP} {x : AtomL} (hr : AllOk r) (h : atomP N r = .ok x r1) : FineOk x ∧ AllOk r1 := by
  unfold atomP at h
  split at h
  · simp at h
  · rename_i n r2 h2
    obtain ⟨a1, a2, a3⟩ := nameP_ok hr h2
    split at h
    · split at h
      · simp at h
      · rename_i l r3 h3
        obtain ⟨b1, b2, b3⟩ := someP_ok (fun _ _ _ => termP_ok) _ _ _ _ a3.tail h3
        obtain ⟨rfl, c⟩ := markP_ok b3 h
        exact ⟨⟨a1, a2, b1, b2⟩, c⟩
    · simp only [Par.ok.injEq] at h
      obtain ⟨rfl, rfl⟩ := h
      exact ⟨⟨a1, a2, by simp, by simp⟩, a3⟩
theorem isO_ne {N : Nat} {r : List TP} {i : Nat} (h : isO N r i = true) : (pk N r i).1.s ≠ [] := by
  intro h0
  unfold isO at h
  rw [h0] at h
  simp [opL] at h
theorem litP_ok {N : Nat} {r r1 : List TP} {x : LitL} (hr : AllOk r) (h : litP N r = .ok x r1) : LitOk x ∧ AllOk r1 := by
  unfold litP at h
  split at h
  · split at h
    · simp at h
    · rename_i a r2 h2
      obtain ⟨a1, a2⟩ := atomP_ok hr.tail h2
      simp only [Par.ok.injEq] at h
      obtain ⟨rfl, rfl⟩ := h
      exact ⟨.inr ⟨.inr rfl, rfl, a1⟩, a2⟩
  · split at h
    · split at h
      · simp at h
      · rename_i a r2 h2
        obtain ⟨a1, a2⟩ := atomP_ok hr h2
        simp only [Par.ok.injEq] at h
        obtain ⟨rfl, rfl⟩ := h
        exact ⟨.inr ⟨.inl rfl, rfl, a1⟩, a2⟩
    · split at h
      · simp at h
      · rename_i a r2 h2
        obtain ⟨a1, a2⟩ := termP_ok hr h2
        split at h
        · rename_i hi
          split at h
          · simp at h
          · rename_i u r3 h3
            obtain ⟨b1, b2⟩ := termP_ok a2.tail h3
            simp only [Par.ok.injEq] at h
            obtain ⟨rfl, rfl⟩ := h
            exact ⟨.inl ⟨rfl, isO_ne hi, a1, b1, rfl⟩, b2⟩
        · simp at h
theorem arityP_ok {N : Nat} {r r1 : List TP} {p : Int} (hr : AllOk r) (h : arityP N r = .ok p r1) : AllOk r1 := by
  unfold arityP at h
  split at h
  · split at h
    · simp at h
    · simp only [Par.ok.injEq] at h
      obtain ⟨rfl, rfl⟩ := h
      exact hr.tail
  · simp at h
theorem declP_ok {N : Nat} {r r1 : List TP} {p : DeclL} (hr : AllOk r) (h : declP N r = .ok p r1) : AllOk r1 := by
  unfold declP at h
  split at h
  · simp at h
  · rename_i n r2 h2
    obtain ⟨_, _, a3⟩ := nameP_ok hr h2
    split at h
    · simp at h
    · rename_i l r3 h3
      exact (markP_ok (arityP_ok a3.tail h3) h).2
theorem ruleP_ok {N : Nat} {r r1 : List TP} {x : RuleL} (hr : AllOk r) (h : ruleP N r = .ok x r1) : RuleOk x ∧ AllOk r1 := by
  unfold ruleP at h
  split at h
  · simp at h
  · rename_i n r2 h2
    obtain ⟨a1, a2⟩ := atomP_ok hr h2
    split at h
    · split at h
      · simp at h
      · rename_i l r3 h3
        obtain ⟨b1, b2, b3⟩ := someP_ok (fun _ _ _ => litP_ok) _ _ _ _ a2.tail h3
        obtain ⟨rfl, c⟩ := markP_ok b3 h
        exact ⟨⟨a1, b1, b2⟩, c⟩
    · obtain ⟨rfl, c⟩ := markP_ok a2 h
      exact ⟨⟨a1, by simp, by simp⟩, c⟩
theorem progF_ok (N : Nat) : ∀ (f : Nat) (ds : List DeclL) (rs : List RuleL) (r : List TP) (g : List DeclL × List RuleL) (r1 : List TP), (∀ x ∈ rs, RuleOk x) → AllOk r → progF N f ds rs r = .ok g r1 → ∀ x ∈ g.2, RuleOk x := by
  intro f
  induction f with
  | zero =>
    intro ds rs r g r1 h0 hr h
    simp only [progF, Par.ok.injEq] at h
    obtain ⟨rfl, _⟩ := h
    exact h0
  | succ f ih =>
    intro ds rs r g r1 h0 hr h
    match r with
    | [] =>
      simp only [progF, Par.ok.injEq] at h
      obtain ⟨rfl, _⟩ := h
      exact h0
    | x :: r =>
      rw [progF] at h
      split at h
      · split at h
        · cases h
        · split at h
          · cases h
          · rename_i d r2 hd
            exact ih _ _ _ _ _ h0 (declP_ok hr hd) h
      · split at h
        · cases h
        · split at h
          · cases h
          · rename_i d r2 hd
            obtain ⟨k1, k2⟩ := ruleP_ok hr hd
            refine ih _ _ _ _ _ ?_ k2 h
            intro y hy
            rcases List.mem_append.1 hy with hy | hy
            · exact h0 y hy
            · rw [List.mem_singleton.1 hy]; exact k1
theorem parseL_ok (s : List UInt8) (g : List DeclL × List RuleL) (h : parseL s = .ok g) : ∀ x ∈ g.2, RuleOk x := by
  unfold parseL at h
  split at h
  · cases h
  · rename_i l hl
    split at h
    · cases h
    · rename_i g' r hg
      injection h with h
      subst h
      exact progF_ok _ _ _ _ _ _ _ (by simp) (scanL_ok s l hl) hg
end Go.Proofs.YthhfjimhfehimaaDoor.V
