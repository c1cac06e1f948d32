/- A program's tokens, and more behind: with no program in sight. -/
import Derived.Test.YthhfjimhfehimaaDoorPar
import Derived.Test.YthhfjimhfehimaaDoorJoin
import Derived.KernelRfl
namespace Go.Proofs.YthhfjimhfehimaaDoor.V
set_option linter.unusedVariables false
set_option linter.unusedSimpArgs false

section
variable {N N' : Nat} {M : List TP}
theorem pk_app {r : List TP} {i : Nat} (h : i < r.length) : pk N' (r ++ M) i = pk N r i := by
  unfold pk
  rw [List.getElem?_append_left h, List.getElem?_eq_getElem h]
  rfl
theorem pk_none {r : List TP} {i : Nat} (h : r.length ≤ i) : pk N r i = eofT N := by
  unfold pk
  rw [List.getElem?_eq_none h]
  rfl
theorem ne_of_k {r : List TP} (h : (pk N r 0).1.k ≠ 0) : r ≠ [] := fun he => h (by rw [he]; rfl)
theorem pos_of_ne {r : List TP} (h : r ≠ []) : 0 < r.length := List.length_pos_iff.2 h
theorem tail_app {r : List TP} (h : r ≠ []) : (r ++ M).tail = r.tail ++ M := by
  cases r with
  | nil => exact absurd rfl h
  | cons x t => rfl
theorem isM_app {r : List TP} {i : Nat} (m : List UInt8) (h : i < r.length) : isM N' (r ++ M) i m = isM N r i m := by
  unfold isM
  rw [pk_app (N := N) h]
theorem isO_app {r : List TP} {i : Nat} (h : i < r.length) : isO N' (r ++ M) i = isO N r i := by
  unfold isO
  rw [pk_app (N := N) h]
theorem ne_of_isM {r : List TP} {m : List UInt8} (h : isM N r 0 m = true) : r ≠ [] := by
  refine ne_of_k (N := N) ?_
  unfold isM at h
  simp at h
  omega
theorem ne_of_isO {r : List TP} (h : isO N r 0 = true) : r ≠ [] := by
  refine ne_of_k (N := N) ?_
  unfold isO at h
  simp at h
  omega
theorem nameP_app {r r1 : List TP} {p : List UInt8} (h : nameP N r = .ok p r1) : nameP N' (r ++ M) = .ok p (r1 ++ M) := by
  unfold nameP at h
  split at h
  · rename_i hc
    have hr : r ≠ [] := ne_of_k (N := N) (by simp at hc; omega)
    simp only [Par.ok.injEq] at h
    obtain ⟨rfl, rfl⟩ := h
    unfold nameP
    rw [pk_app (N := N) (pos_of_ne hr), if_pos hc, tail_app hr]
  · simp at h
theorem termP_app {r r1 : List TP} {p : TermL} (h : termP N r = .ok p r1) : termP N' (r ++ M) = .ok p (r1 ++ M) := by
  have hr : r ≠ [] := by
    intro he
    subst he
    simp [termP, pk, eofT] at h
  unfold termP at h ⊢
  rw [pk_app (N := N) (pos_of_ne hr), tail_app hr]
  repeat' split at h
  all_goals first
    | (simp at h; done)
    | (simp only [Par.ok.injEq] at h
       obtain ⟨rfl, rfl⟩ := h
       simp_all)
theorem markP_app {α : Type} {m : List UInt8} {x y : α} {r r1 : List TP} (h : markP N m x r = .ok y r1) : r ≠ [] ∧ markP N' m x (r ++ M) = .ok y (r1 ++ M) := by
  unfold markP at h
  split at h
  · rename_i hc
    have hr := ne_of_isM hc
    simp only [Par.ok.injEq] at h
    obtain ⟨rfl, rfl⟩ := h
    refine ⟨hr, ?_⟩
    unfold markP
    rw [isM_app (N := N) _ (pos_of_ne hr), if_pos hc, tail_app hr]
  · simp at h
theorem someP_app {α : Type} {one one' : List TP → Par α} (ho : ∀ r x r1, one r = .ok x r1 → r1 ≠ [] → one' (r ++ M) = .ok x (r1 ++ M)) :
    ∀ (m : Nat) (r : List TP) (xs : List α) (r1 : List TP), someP one N m r = .ok xs r1 → r1 ≠ [] → someP one' N' m (r ++ M) = .ok xs (r1 ++ M) := by
  intro m
  induction m with
  | zero => intro r xs r1 h; simp [someP] at h
  | succ m ih =>
    intro r xs r1 h hne
    unfold someP at h
    split at h
    · simp at h
    · rename_i x r2 h2
      split at h
      · rename_i hc
        have hr2 := ne_of_isM hc
        split at h
        · simp at h
        · rename_i ys r3 h3
          simp only [Par.ok.injEq] at h
          obtain ⟨rfl, rfl⟩ := h
          unfold someP
          rw [ho _ _ _ h2 hr2]
          simp only []
          rw [isM_app (N := N) _ (pos_of_ne hr2), if_pos hc, tail_app hr2, ih _ _ _ h3 hne]
      · rename_i hc
        simp only [Par.ok.injEq] at h
        obtain ⟨rfl, rfl⟩ := h
        unfold someP
        rw [ho _ _ _ h2 hne]
        simp only []
        rw [isM_app (N := N) _ (pos_of_ne hne), if_neg hc]
theorem atomP_app {r r1 : List TP} {p : AtomL} (h : atomP N r = .ok p r1) (hne : r1 ≠ []) : atomP N' (r ++ M) = .ok p (r1 ++ M) := by
  unfold atomP at h
  split at h
  · simp at h
  · rename_i n r2 h2
    split at h
    · rename_i hc
      have hr2 := ne_of_isM hc
      split at h
      · simp at h
      · rename_i l r3 h3
        obtain ⟨hr3, hm⟩ := markP_app (N' := N') (M := M) h
        unfold atomP
        rw [nameP_app h2]
        simp only []
        rw [isM_app (N := N) _ (pos_of_ne hr2), if_pos hc, tail_app hr2, someP_app (fun _ _ _ h _ => termP_app h) _ _ _ _ h3 hr3]
        exact hm
    · rename_i hc
      simp only [Par.ok.injEq] at h
      obtain ⟨rfl, rfl⟩ := h
      unfold atomP
      rw [nameP_app h2]
      simp only []
      rw [isM_app (N := N) _ (pos_of_ne hne), if_neg hc]
theorem litP_app {r r1 : List TP} {p : LitL} (h : litP N r = .ok p r1) (hne : r1 ≠ []) : litP N' (r ++ M) = .ok p (r1 ++ M) := by
  have hlt := litP_lt h
  have h1 : 1 < r.length := by
    have := pos_of_ne hne
    omega
  have hr : r ≠ [] := by
    intro he
    rw [he] at h1
    simp at h1
  unfold litP at h ⊢
  rw [pk_app (N := N) (pos_of_ne hr), isO_app (N := N) h1, tail_app hr]
  split at h
  · rename_i hc
    rw [if_pos hc]
    split at h
    · simp at h
    · rename_i a r2 h2
      simp only [Par.ok.injEq] at h
      obtain ⟨rfl, rfl⟩ := h
      rw [atomP_app h2 hne]
  · rename_i hc
    rw [if_neg hc]
    split at h
    · rename_i hd
      rw [if_pos hd]
      split at h
      · simp at h
      · rename_i a r2 h2
        simp only [Par.ok.injEq] at h
        obtain ⟨rfl, rfl⟩ := h
        rw [atomP_app h2 hne]
    · rename_i hd
      rw [if_neg hd]
      split at h
      · simp at h
      · rename_i a r2 h2
        rw [termP_app h2]
        simp only []
        split at h
        · rename_i hi
          have hr2 := ne_of_isO hi
          rw [isO_app (N := N) (pos_of_ne hr2), if_pos hi, tail_app hr2, pk_app (N := N) (pos_of_ne hr2)]
          split at h
          · simp at h
          · rename_i u r3 h3
            simp only [Par.ok.injEq] at h
            obtain ⟨rfl, rfl⟩ := h
            rw [termP_app h3]
        · simp at h
theorem arityP_app {r r1 : List TP} {p : Int} (h : arityP N r = .ok p r1) : r ≠ [] ∧ arityP N' (r ++ M) = .ok p (r1 ++ M) := by
  have hr : r ≠ [] := by
    intro he
    subst he
    simp [arityP, pk, eofT] at h
  refine ⟨hr, ?_⟩
  unfold arityP at h ⊢
  rw [pk_app (N := N) (pos_of_ne hr), tail_app hr]
  split at h
  · rename_i hc
    rw [if_pos hc]
    split at h
    · simp at h
    · rename_i hd
      rw [if_neg hd]
      simp only [Par.ok.injEq] at h
      obtain ⟨rfl, rfl⟩ := h
      rfl
  · simp at h
theorem declP_app {r r1 : List TP} {p : DeclL} (h : declP N r = .ok p r1) : 1 < r.length ∧ declP N' (r ++ M) = .ok p (r1 ++ M) := by
  have hlt := declP_lt h
  unfold declP at h
  split at h
  · simp at h
  · rename_i n r2 h2
    have h2l := nameP_lt h2
    split at h
    · simp at h
    · rename_i l r3 h3
      obtain ⟨hr2, ha⟩ := arityP_app (N' := N') (M := M) h3
      have hr2' : r2 ≠ [] := by
        intro he
        rw [he] at hr2
        exact hr2 rfl
      refine ⟨by have := pos_of_ne hr2'; omega, ?_⟩
      unfold declP
      rw [nameP_app h2]
      simp only []
      rw [tail_app hr2', ha]
      exact (markP_app h).2
theorem ruleP_app {r r1 : List TP} {p : RuleL} (h : ruleP N r = .ok p r1) : 1 < r.length ∧ ruleP N' (r ++ M) = .ok p (r1 ++ M) := by
  unfold ruleP at h
  split at h
  · simp at h
  · rename_i n r2 h2
    have h2l := atomP_lt h2
    split at h
    · rename_i hc
      have hr2 := ne_of_isM hc
      split at h
      · simp at h
      · rename_i l r3 h3
        obtain ⟨hr3, hm⟩ := markP_app (N' := N') (M := M) h
        refine ⟨by have := pos_of_ne hr2; omega, ?_⟩
        unfold ruleP
        rw [atomP_app h2 hr2]
        simp only []
        rw [isM_app (N := N) _ (pos_of_ne hr2), if_pos hc, tail_app hr2, someP_app (fun _ _ _ h hn => litP_app h hn) _ _ _ _ h3 hr3]
        exact hm
    · rename_i hc
      obtain ⟨hr3, hm⟩ := markP_app (N' := N') (M := M) h
      refine ⟨by have := pos_of_ne hr3; omega, ?_⟩
      unfold ruleP
      rw [atomP_app h2 hr3]
      simp only []
      rw [isM_app (N := N) _ (pos_of_ne hr3), if_neg hc]
      exact hm
/-- A program's tokens, and more. -/
theorem progT_app : ∀ (n : Nat) (r : List TP) (ds : List DeclL) (rs : List RuleL) (g : List DeclL × List RuleL) (r1 : List TP), r.length ≤ n → progT N ds rs r = .ok g r1 → progT N' ds rs (r ++ M) = progT N' g.1 g.2 M := by
  intro n
  induction n with
  | zero =>
    intro r ds rs g r1 hl h
    match r, hl with
    | [], _ =>
      rw [progT_nil] at h
      injection h with h1 _
      subst h1
      rfl
  | succ n ih =>
    intro r ds rs g r1 hl h
    match r with
    | [] =>
      rw [progT_nil] at h
      injection h with h1 _
      subst h1
      rfl
    | x :: r =>
      rw [progT_cons] at h
      rw [List.cons_append, progT_cons, ← List.cons_append]
      split at h
      · rename_i hc
        split at h
        · cases h
        · rename_i hd
          split at h
          · cases h
          · rename_i d r2 h2
            obtain ⟨h1, h3⟩ := declP_app (N' := N') (M := M) h2
            have hlt := declP_lt h2
            rw [isM_app (N := N) _ h1, if_pos hc, if_neg hd, h3]
            exact ih _ _ _ _ _ (by simp at hl hlt; omega) h
      · rename_i hc
        split at h
        · cases h
        · rename_i hd
          split at h
          · cases h
          · rename_i d r2 h2
            obtain ⟨h1, h3⟩ := ruleP_app (N' := N') (M := M) h2
            have hlt := ruleP_lt h2
            rw [isM_app (N := N) _ h1, if_neg hc, if_neg hd, h3]
            exact ih _ _ _ _ _ (by simp at hl hlt; omega) h
end

/-- A program, a line's end, and more. -/
theorem parseL_app {s : List UInt8} {g : List DeclL × List RuleL} (h : parseL s = .ok g) (t : List UInt8) (hl : s.length + 1 + t.length ≤ 65536) :
    parseL (s ++ 10 :: t) = match scanT (s.length + 1 + t.length) t with
      | .bad a e => .bad a e
      | .ok M => match progT (s.length + 1 + t.length) g.1 g.2 M with
        | .bad a e => .bad a e
        | .ok k _ => .ok k := by
  have hlen : (s ++ 10 :: t).length = s.length + 1 + t.length := by simp; omega
  have hscan : ∀ u : List UInt8, u.length ≤ 65536 → scanL u = scanT u.length u := by
    intro u hu
    unfold scanL
    rw [if_neg (by omega)]
    rfl
  unfold parseL at h ⊢
  rw [hscan s (by omega)] at h
  rw [hscan _ (by omega), hlen, scanT_app t _ s s.length (Nat.le_refl _) (Nat.le_refl _)]
  cases hs : scanT s.length s with
  | bad a e => rw [hs] at h; cases h
  | ok L =>
    rw [hs] at h
    simp only at h ⊢
    cases ht : scanT (s.length + 1 + t.length) t with
    | bad a e => rfl
    | ok M =>
      simp only [Scan.app]
      cases hp : progF s.length (L.length + 1) [] [] L with
      | bad a e => rw [hp] at h; cases h
      | ok k r1 =>
        rw [hp] at h
        injection h with h
        subst h
        have h2 := progT_app (N := s.length) (N' := s.length + 1 + t.length) (M := M) _ L [] [] k r1 (Nat.le_refl _) hp
        rw [show progF (s.length + 1 + t.length) ((L ++ M).length + 1) [] [] (L ++ M) = progT (s.length + 1 + t.length) [] [] (L ++ M) from rfl, h2]
        cases progT (s.length + 1 + t.length) k.1 k.2 M <;> rfl

theorem cut_one {s : List UInt8} {g : List DeclL × List RuleL} (h : parseL s = .ok g) (hs : s.length ≤ 8000) (hr : g.2.length < 400) : parseL (s ++ [10, 120]) = .bad (s.length + 2) 2 := by
  rw [parseL_app h [120] (by simp; omega)]
  have h1 : scanT (s.length + 1 + ([120] : List UInt8).length) [120] = .ok [(⟨1, [120], 0, false⟩, s.length + 1)] := by
    rw [scanT_tok _ [120] 120 [] ⟨1, [120], 0, false⟩ [] (by decide) (by rfl), scanT_nil _ [] rfl]
    simp [Scan.cons]
  rw [h1]
  simp only []
  have hn : (g.2.length == 400) = false := by simp; omega
  rw [progT_cons, hn]
  simp [isM, pk, eofT, ruleP, atomP, nameP, markP, show plainL [120] = true from by decide]
theorem cut_dot {s : List UInt8} {g : List DeclL × List RuleL} (h : parseL s = .ok g) (hs : s.length ≤ 8000) (hr : g.2.length < 400) : parseL (s ++ [10, 46]) = .bad (s.length + 1) 2 := by
  rw [parseL_app h [46] (by simp; omega)]
  have h1 : scanT (s.length + 1 + ([46] : List UInt8).length) [46] = .ok [(⟨4, [46], 0, false⟩, s.length + 1)] := by
    rw [scanT_tok _ [46] 46 [] ⟨4, [46], 0, false⟩ [] (by decide) (by rfl), scanT_nil _ [] rfl]
    simp [Scan.cons]
  rw [h1]
  simp only []
  have hn : (g.2.length == 400) = false := by simp; omega
  rw [progT_cons, hn]
  simp [isM, pk, eofT, ruleP, atomP, nameP, markP]
theorem cut_open {s : List UInt8} {g : List DeclL × List RuleL} (h : parseL s = .ok g) (hs : s.length ≤ 8000) (hr : g.2.length < 400) : parseL (s ++ [10, 120, 32, 58, 45, 32]) = .bad (s.length + 6) 2 := by
  rw [parseL_app h [120, 32, 58, 45, 32] (by simp; omega)]
  have h1 : scanT (s.length + 1 + ([120, 32, 58, 45, 32] : List UInt8).length) [120, 32, 58, 45, 32] = .ok [(⟨1, [120], 0, false⟩, s.length + 1), (⟨4, [58, 45], 0, false⟩, s.length + 3)] := by
    rw [scanT_tok _ [120, 32, 58, 45, 32] 120 [32, 58, 45, 32] ⟨1, [120], 0, false⟩ [32, 58, 45, 32] (by decide) (by rfl), scanT_tok _ [32, 58, 45, 32] 58 [45, 32] ⟨4, [58, 45], 0, false⟩ [32] (by decide) (by rfl), scanT_nil _ [32] (by decide)]
    simp [Scan.cons]
  rw [h1]
  simp only []
  have hn : (g.2.length == 400) = false := by simp; omega
  rw [progT_cons, hn]
  simp [isM, isO, pk, eofT, ruleP, atomP, nameP, markP, someP, litP, termP, show plainL [120] = true from by decide]
theorem scanF_bad (N : Nat) : ∀ (f : Nat) (l : List UInt8) (a e : Nat), scanF f N l = .bad a e → e ≠ 0 := by
  intro f
  induction f with
  | zero => intro l a e h; cases h
  | succ f ih =>
    intro l a e h
    unfold scanF at h
    split at h
    · cases h
    · split at h
      · rename_i e2 ho
        injection h with _ h
        subst h
        revert ho
        unfold oneL namedL numL qres markL
        intro ho
        repeat' split at ho
        all_goals simp_all
        all_goals omega
      · rename_i k r ho
        cases hr : scanF f N r with
        | bad a2 e2 =>
          rw [hr] at h
          injection h with _ h
          subst h
          exact ih r _ _ hr
        | ok L => rw [hr] at h; cases h
section
variable {N : Nat} {r : List TP} {a e : Nat}
theorem nameP_bad (h : nameP N r = .bad a e) : e ≠ 0 := by
  unfold nameP at h
  split at h
  · cases h
  · injection h with _ h; omega
theorem termP_bad (h : termP N r = .bad a e) : e ≠ 0 := by
  unfold termP at h
  repeat' split at h
  all_goals first
    | (cases h; done)
    | (injection h with _ h; omega)
theorem markP_bad {α : Type} {m : List UInt8} {x : α} (h : markP N m x r = .bad a e) : e ≠ 0 := by
  unfold markP at h
  split at h
  · cases h
  · injection h with _ h; omega
theorem someP_bad {α : Type} {one : List TP → Par α} (ho : ∀ r a e, one r = .bad a e → e ≠ 0) : ∀ (m : Nat) (r : List TP) (a e : Nat), someP one N m r = .bad a e → e ≠ 0 := by
  intro m
  induction m with
  | zero => intro r a e h; injection h with _ h; omega
  | succ m ih =>
    intro r a e h
    unfold someP at h
    split at h
    · rename_i a2 e2 h2
      injection h with _ h
      subst h
      exact ho _ _ _ h2
    · split at h
      · split at h
        · rename_i a2 e2 h2
          injection h with _ h
          subst h
          exact ih _ _ _ h2
        · cases h
      · cases h
theorem atomP_bad (h : atomP N r = .bad a e) : e ≠ 0 := by
  unfold atomP at h
  split at h
  · rename_i a2 e2 h2
    injection h with _ h
    subst h
    exact nameP_bad h2
  · split at h
    · split at h
      · rename_i a2 e2 h2
        injection h with _ h
        subst h
        exact someP_bad (fun _ _ _ => termP_bad) _ _ _ _ h2
      · exact markP_bad h
    · cases h
theorem litP_bad (h : litP N r = .bad a e) : e ≠ 0 := by
  unfold litP at h
  split at h
  · split at h
    · rename_i a2 e2 h2
      injection h with _ h
      subst h
      exact atomP_bad h2
    · cases h
  · split at h
    · split at h
      · rename_i a2 e2 h2
        injection h with _ h
        subst h
        exact atomP_bad h2
      · cases h
    · split at h
      · rename_i a2 e2 h2
        injection h with _ h
        subst h
        exact termP_bad h2
      · split at h
        · split at h
          · rename_i a2 e2 h2
            injection h with _ h
            subst h
            exact termP_bad h2
          · cases h
        · injection h with _ h; omega
theorem arityP_bad (h : arityP N r = .bad a e) : e ≠ 0 := by
  unfold arityP at h
  repeat' split at h
  all_goals first
    | (cases h; done)
    | (injection h with _ h; omega)
theorem declP_bad (h : declP N r = .bad a e) : e ≠ 0 := by
  unfold declP at h
  split at h
  · rename_i a2 e2 h2
    injection h with _ h
    subst h
    exact nameP_bad h2
  · split at h
    · rename_i a2 e2 h2
      injection h with _ h
      subst h
      exact arityP_bad h2
    · exact markP_bad h
theorem ruleP_bad (h : ruleP N r = .bad a e) : e ≠ 0 := by
  unfold ruleP at h
  split at h
  · rename_i a2 e2 h2
    injection h with _ h
    subst h
    exact atomP_bad h2
  · split at h
    · split at h
      · rename_i a2 e2 h2
        injection h with _ h
        subst h
        exact someP_bad (fun _ _ _ => litP_bad) _ _ _ _ h2
      · exact markP_bad h
    · exact markP_bad h
end
theorem progF_bad (N : Nat) : ∀ (f : Nat) (ds : List DeclL) (rs : List RuleL) (r : List TP) (a e : Nat), progF N f ds rs r = .bad a e → e ≠ 0 := by
  intro f
  induction f with
  | zero => intro ds rs r a e h; cases h
  | succ f ih =>
    intro ds rs r a e h
    match r with
    | [] => cases h
    | x :: r =>
      rw [progF] at h
      split at h
      · split at h
        · injection h with _ h; omega
        · split at h
          · rename_i a2 e2 h2
            injection h with _ h
            subst h
            exact declP_bad h2
          · exact ih _ _ _ _ _ h
      · split at h
        · injection h with _ h; omega
        · split at h
          · rename_i a2 e2 h2
            injection h with _ h
            subst h
            exact ruleP_bad h2
          · exact ih _ _ _ _ _ h
theorem scanL_bad {s : List UInt8} {a e : Nat} (h : scanL s = .bad a e) : e ≠ 0 := by
  unfold scanL at h
  split at h
  · injection h with _ h; omega
  · exact scanF_bad _ _ _ _ _ h
theorem parseL_bad {s : List UInt8} {a e : Nat} (h : parseL s = .bad a e) : e ≠ 0 := by
  unfold parseL at h
  split at h
  · rename_i a2 e2 h2
    injection h with _ h
    subst h
    exact scanL_bad h2
  · split at h
    · rename_i a2 e2 h2
      injection h with _ h
      subst h
      exact progF_bad _ _ _ _ _ _ _ h2
    · cases h
end Go.Proofs.YthhfjimhfehimaaDoor.V
