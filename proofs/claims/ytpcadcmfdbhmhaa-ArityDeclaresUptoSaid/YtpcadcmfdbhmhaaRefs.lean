/- What the document's answers come to, as plain functions: the uses, a name's arity, all arities. Sizes alone are asked. -/
import Derived.Test.YtpcadcmfdbhmhaaPx
namespace Go.Proofs.Ytpcadcmfdbhmhaa.P
open Go.RowKit Go.Proofs.YtpcadcmfdbhmhaaW.PrintWords Go.Proofs.YtpcadcmfdbhmhaaW.PrintLast Go.Proofs.YtpcadcmfdbhmhaaW.PrintMore

/-- A program that fits. -/
def Fits (ds : List S39) (rs : List S46) : Prop := (usesD ds rs).length ≤ 5000000000000 ∧ rs.length ≤ 1000000000000 ∧ ∀ r ∈ rs, r.f1.length ≤ 1000000000000

theorem rd39_nat {l : List S39} {i : Nat} (h : i < l.length) : rd_T39 l (i : Int) = l[i] := by simp [rd_T39, List.getD_eq_getElem?_getD, h]
theorem rd46_nat {l : List S46} {i : Nat} (h : i < l.length) : rd_T46 l (i : Int) = l[i] := by simp [rd_T46, List.getD_eq_getElem?_getD, h]
theorem rd54_nat {l : List S54} {i : Nat} (h : i < l.length) : rd_T54 l (i : Int) = l[i] := by simp [rd_T54, List.getD_eq_getElem?_getD, h]
theorem ev_ite {α : Type} {c : Prop} [Decidable c] {f g : Nat → Option α} {r : α} (h : c → Ev f r) (k : ¬ c → Ev g r) : Ev (fun n => if c then f n else g n) r := by
  by_cases hc : c
  · simpa [hc] using h hc
  · simpa [hc] using k hc

instance : DecidableEq S39 := fun a b => if h : a.f0 = b.f0 ∧ a.f1 = b.f1 then isTrue (by cases a; cases b; simp_all) else isFalse (fun e => h (by rw [e]; exact ⟨rfl, rfl⟩))
theorem litsD_cons (x : S54) (l : List S54) : litsD (x :: l) = (if isUse x = true then [atomD x.f1] else []) ++ litsD l := by
  by_cases h : isUse x = true <;> simp [litsD, h]

theorem lits_ev (ds : List S39) (rs : List S46) (p : ByteArray) (qs : List S52) (ls : List S54) (i : Nat) (R : List S39) (hi : i < rs.length) (hrs : rs.length ≤ 1000000000000) (hls : ls.length ≤ 1000000000000) (d : Nat) :
    ∀ (L : List S39) (j : Nat), ls.length - j ≤ d → L.length + (litsD (ls.drop j)).length ≤ 5000000000000 → Ev (fun k => lambrequinref08_Uses.l0 k (L ++ litsD (ls.drop j)) ((i + 1 : Nat) : Int) ds rs) R → Ev (fun k => lambrequinref08_Uses.l1 k L (i : Int) (j : Int) ds rs p qs ls) R := by
  induction d with
  | zero =>
    intro L j h1 h2 h
    rw [List.drop_eq_nil_of_le (by omega)] at h
    refine Ev.step (f := fun k => lambrequinref08_Uses.l0 k L ((i + 1 : Nat) : Int) ds rs) (fun k => ?_) (by simpa [litsD] using h)
    simp only [lambrequinref08_Uses.l1]
    rw [if_neg (by omega), wrap_succ i (by omega)]
  | succ d ih =>
    intro L j h1 h2 h
    by_cases hj : j < ls.length
    · have e := rd54_nat hj
      have hd : ls.drop j = ls[j] :: ls.drop (j + 1) := List.drop_eq_getElem_cons hj
      by_cases hu : isUse ls[j] = true
      · have hl : litsD (ls.drop j) = atomD ls[j].f1 :: litsD (ls.drop (j + 1)) := by rw [hd, litsD_cons, if_pos hu]; rfl
        rw [hl] at h h2
        rw [List.length_cons] at h2
        refine Ev.step (f := fun k => lambrequinref08_Uses.l1 k (L ++ [atomD ls[j].f1]) (i : Int) ((j + 1 : Nat) : Int) ds rs p qs ls) (fun k => ?_) (ih (L ++ [atomD ls[j].f1]) (j + 1) (by omega) (by rw [List.length_append, List.length_singleton]; omega) (by simpa using h))
        simp only [lambrequinref08_Uses.l1]
        rw [if_pos (by omega), if_pos (by omega), e]
        by_cases h1 : ls[j].f0 = 1
        · rw [if_pos h1, if_pos (by omega), wrap_succ j (by omega)]
          rfl
        · have h2' : ls[j].f0 = 2 := by simpa [isUse, h1] using hu
          rw [if_neg h1, if_pos h2', if_pos (by omega), wrap_succ j (by omega)]
          rfl
      · have hl : litsD (ls.drop j) = litsD (ls.drop (j + 1)) := by rw [hd, litsD_cons, if_neg hu]; rfl
        rw [hl] at h h2
        refine Ev.step (f := fun k => lambrequinref08_Uses.l1 k L (i : Int) ((j + 1 : Nat) : Int) ds rs p qs ls) (fun k => ?_) (ih L (j + 1) (by omega) h2 h)
        simp only [lambrequinref08_Uses.l1]
        have h1 : ¬ ls[j].f0 = 1 := fun he => hu (by simp [isUse, he])
        have h2' : ¬ ls[j].f0 = 2 := fun he => hu (by simp [isUse, he])
        rw [if_pos (by omega), if_pos (by omega), e, if_neg h1, if_neg h2', wrap_succ j (by omega)]
    · exact ih L j (by omega) h2 h

theorem rules_ev (ds : List S39) (rs : List S46) (hrs : rs.length ≤ 1000000000000) (hls : ∀ r ∈ rs, r.f1.length ≤ 1000000000000) (d : Nat) :
    ∀ (L : List S39) (i : Nat), rs.length - i ≤ d → L.length + ((rs.drop i).flatMap atomsD).length ≤ 5000000000000 → Ev (fun k => lambrequinref08_Uses.l0 k L (i : Int) ds rs) (L ++ (rs.drop i).flatMap atomsD) := by
  induction d with
  | zero =>
    intro L i h1 h2
    rw [List.drop_eq_nil_of_le (by omega)]
    refine Ev.step (f := fun _ => some L) (fun k => ?_) (by simpa using Ev.now L)
    simp only [lambrequinref08_Uses.l0]
    rw [if_neg (by omega)]
  | succ d ih =>
    intro L i h1 h2
    by_cases hi : i < rs.length
    · have e := rd46_nat hi
      have hd : rs.drop i = rs[i] :: rs.drop (i + 1) := List.drop_eq_getElem_cons hi
      rw [hd, List.flatMap_cons, atomsD, List.cons_append, List.length_cons, List.length_append] at h2
      refine Ev.step (f := fun k => lambrequinref08_Uses.l1 k (L ++ [atomD rs[i].f0]) (i : Int) ((0 : Nat) : Int) ds rs rs[i].f0.f0 rs[i].f0.f1 rs[i].f1) (fun k => ?_)
        (lits_ev ds rs _ _ rs[i].f1 i _ hi hrs (hls _ (List.getElem_mem hi)) _ (L ++ [atomD rs[i].f0]) 0 (Nat.le_refl _) (by rw [List.length_append, List.length_singleton, List.drop_zero]; omega) ?_)
      · simp only [lambrequinref08_Uses.l0]
        rw [if_pos (by omega), if_pos (by omega), if_pos (by omega), e]
        rfl
      · have := ih (L ++ [atomD rs[i].f0] ++ litsD rs[i].f1) (i + 1) (by omega) (by rw [List.length_append, List.length_append, List.length_singleton]; omega)
        rw [hd, List.flatMap_cons, atomsD, List.drop_zero]
        simpa [List.append_assoc] using this
    · exact ih L i (by omega) h2

theorem uses_ev {ds : List S39} {rs : List S46} (h : Fits ds rs) : Ev (fun k => lambrequinref08_Uses.f k ds rs) (usesD ds rs) := by
  have hl := h.1
  rw [usesD, List.length_append] at hl
  refine Ev.congr (f := fun k => lambrequinref08_Uses.l0 k ds ((0 : Nat) : Int) ds rs) (fun k => ?_) (by simpa [usesD] using rules_ev ds rs h.2.1 h.2.2 _ ds 0 (Nat.le_refl _) (by rw [List.drop_zero]; exact hl))
  simp only [lambrequinref08_Uses.f, Option.bind_some, List.nil_append, List.length_nil]
  rw [if_pos (by omega)]
  rfl
theorem few_ev {ds : List S39} {rs : List S46} (h : Fits ds rs) : Ev (fun k => lambrequinlaw08_few.f k ds rs) (decide (((usesD ds rs).length : Int) ≤ 300)) :=
  Ev.bind (uses_ev h) (Ev.now _)

theorem find_from (l : List S39) (p : ByteArray) (hl : l.length ≤ 1000000000000000) (d : Nat) : ∀ i : Nat, l.length - i ≤ d → Ev (fun k => lambrequinref08_Find.l0 k l p (i : Int)) (foundD (l.drop i) p) := by
  induction d with
  | zero =>
    intro i h1
    rw [List.drop_eq_nil_of_le (by omega)]
    refine Ev.step (f := fun _ => some (0, false)) (fun k => ?_) (Ev.now _)
    simp only [lambrequinref08_Find.l0]
    rw [if_neg (by omega)]
  | succ d ih =>
    intro i h1
    by_cases hi : i < l.length
    · have e := rd39_nat hi
      have hd : l.drop i = l[i] :: l.drop (i + 1) := List.drop_eq_getElem_cons hi
      by_cases hp : l[i].f0 = p
      · refine Ev.step (f := fun _ => some (l[i].f1, true)) (fun k => ?_) (by rw [hd]; simpa [foundD, findD, hp] using Ev.now (l[i].f1, true))
        simp only [lambrequinref08_Find.l0]
        rw [if_pos (by omega), if_pos (by omega), e, hp, if_pos rfl]
      · refine Ev.step (f := fun k => lambrequinref08_Find.l0 k l p ((i + 1 : Nat) : Int)) (fun k => ?_) (by rw [hd]; simpa [foundD, findD, hp] using ih (i + 1) (by omega))
        simp only [lambrequinref08_Find.l0]
        rw [if_pos (by omega), if_pos (by omega), e, if_neg (fun h => hp (bytes_eq h)), wrap_succ i (by omega)]
    · exact ih i (by omega)
theorem find_ev {l : List S39} (p : ByteArray) (hl : l.length ≤ 1000000000000000) : Ev (fun k => lambrequinref08_Find.f k l p) (foundD l p) := by
  simpa [lambrequinref08_Find.f] using find_from l p hl _ 0 (Nat.le_refl _)

theorem findD_append (a b : List S39) (p : ByteArray) : findD (a ++ b) p = (findD a p).or (findD b p) := by
  induction a with
  | nil => simp [findD]
  | cons d a ih =>
    by_cases h : d.f0 = p
    · simp [findD, h]
    · simp [findD, h, ih]
theorem kept_from (us : List S39) : ∀ (L pre L' : List S39), (∀ p, findD L p = findD pre p) → us.foldl (fun o d => o.bind fun L => stepD L d) (some L) = some L' → ∀ p, findD L' p = findD (pre ++ us) p := by
  induction us with
  | nil => intro L pre L' hp h p; cases h; rw [List.append_nil]; exact hp p
  | cons d us ih =>
    intro L pre L' hp h p
    simp only [List.foldl_cons, Option.bind_some] at h
    cases hs : stepD L d with
    | none => rw [hs, foldl_none] at h; cases h
    | some M =>
      rw [hs] at h
      have := ih M (pre ++ [d]) L' (fun q => ?_) h p
      · rw [this, List.append_assoc]; rfl
      · rw [findD_append, ← hp q]
        unfold stepD at hs
        cases hf : findD L d.f0 with
        | none =>
          rw [hf] at hs
          cases hs
          rw [findD_append]
        | some n =>
          rw [hf] at hs
          by_cases hn : n = d.f1
          · simp only [hn, if_true] at hs
            cases hs
            by_cases hq : d.f0 = q
            · subst hq
              rw [hf]
              rfl
            · simp [findD, hq]
          · simp only [hn, if_false] at hs
            cases hs
theorem kept_find {pre L : List S39} (h : keptD pre = some L) (p : ByteArray) : findD L p = findD pre p := kept_from pre [] [] L (fun _ => rfl) h p

/-- The document's way through the uses. -/
theorem of_from (us : List S39) (hl : us.length ≤ 5000000000000) (d : Nat) : ∀ (L : List S39) (i : Nat), us.length - i ≤ d → i ≤ us.length → keptD (us.take i) = some L → Ev (fun k => lambrequinref08_Of.l0 k us L (i : Int)) (runD L i (us.drop i)) := by
  induction d with
  | zero =>
    intro L i h1 h2 hk
    rw [List.drop_eq_nil_of_le (by omega)]
    refine Ev.step (f := fun _ => some (L, 0, 0)) (fun k => ?_) (Ev.now _)
    simp only [lambrequinref08_Of.l0]
    rw [if_neg (by omega)]
  | succ d ih =>
    intro L i h1 h2 hk
    by_cases hi : i < us.length
    · have e := rd39_nat hi
      have hd : us.drop i = us[i] :: us.drop (i + 1) := List.drop_eq_getElem_cons hi
      have ht : us.take (i + 1) = us.take i ++ [us[i]] := List.take_succ_eq_append_getElem hi
      have hL : L.length ≤ i := by
        have := kept_length (us.take i) [] L hk
        rw [List.length_nil, List.length_take] at this
        omega
      have hf : Ev (fun k => lambrequinref08_Find.f k (us.take i) us[i].f0) (foundD (us.take i) us[i].f0) := find_ev _ (by rw [List.length_take]; omega)
      have hff := kept_find hk us[i].f0
      rw [hd]
      cases hq : findD (us.take i) us[i].f0 with
      | none =>
        have hs : stepD L us[i] = some (L ++ [us[i]]) := by simp [stepD, hff, hq]
        have hg : foundD (us.take i) us[i].f0 = (0, false) := by simp [foundD, hq]
        rw [hg] at hf
        have hn := ih (L ++ [us[i]]) (i + 1) (by omega) (by omega) (by rw [ht, keptD_snoc, hk]; exact hs)
        have hr : runD L i (us[i] :: us.drop (i + 1)) = runD (L ++ [us[i]]) (i + 1) (us.drop (i + 1)) := by simp [runD, hs]
        rw [hr]
        refine Ev.step (f := fun k => (lambrequinref08_Find.f k (us.take i) us[i].f0).bind fun b => if b.2 = true then lambrequinref08_Of.j1 k us L i b.2 (b.1 != us[i].f1) else lambrequinref08_Of.j1 k us L i b.2 false) (fun k => ?_) (Ev.bind hf ?_)
        · simp only [lambrequinref08_Of.l0]
          rw [if_pos (by omega), if_pos (by omega), if_pos (by omega), e]
          rfl
        · refine Ev.step (f := fun k => lambrequinref08_Of.l0 k us (L ++ [us[i]]) ((i + 1 : Nat) : Int)) (fun k => ?_) hn
          simp only [lambrequinref08_Of.j1]
          rw [if_neg (by simp), if_neg (by simp), if_neg (by simp), if_pos (by omega), if_pos (by omega), if_pos (by omega), e, wrap_succ i (by omega)]
      | some n =>
        have hg : foundD (us.take i) us[i].f0 = (n, true) := by simp [foundD, hq]
        rw [hg] at hf
        by_cases hn : n = us[i].f1
        · have hs : stepD L us[i] = some L := by simp [stepD, hff, hq, hn]
          have hm := ih L (i + 1) (by omega) (by omega) (by rw [ht, keptD_snoc, hk]; exact hs)
          have hr : runD L i (us[i] :: us.drop (i + 1)) = runD L (i + 1) (us.drop (i + 1)) := by simp [runD, hs]
          rw [hr]
          refine Ev.step (f := fun k => (lambrequinref08_Find.f k (us.take i) us[i].f0).bind fun b => if b.2 = true then lambrequinref08_Of.j1 k us L i b.2 (b.1 != us[i].f1) else lambrequinref08_Of.j1 k us L i b.2 false) (fun k => ?_) (Ev.bind hf ?_)
          · simp only [lambrequinref08_Of.l0]
            rw [if_pos (by omega), if_pos (by omega), if_pos (by omega), e]
            rfl
          · refine Ev.step (f := fun k => lambrequinref08_Of.l0 k us L ((i + 1 : Nat) : Int)) (fun k => ?_) hm
            simp only [lambrequinref08_Of.j1]
            rw [if_pos trivial, if_neg (by simp [hn]), if_pos trivial, wrap_succ i (by omega)]
        · have hs : stepD L us[i] = none := by simp [stepD, hff, hq, hn]
          have hr : runD L i (us[i] :: us.drop (i + 1)) = ([], (i : Int), 5) := by simp [runD, hs]
          rw [hr]
          refine Ev.step (f := fun k => (lambrequinref08_Find.f k (us.take i) us[i].f0).bind fun b => if b.2 = true then lambrequinref08_Of.j1 k us L i b.2 (b.1 != us[i].f1) else lambrequinref08_Of.j1 k us L i b.2 false) (fun k => ?_) (Ev.bind hf ?_)
          · simp only [lambrequinref08_Of.l0]
            rw [if_pos (by omega), if_pos (by omega), if_pos (by omega), e]
            rfl
          · refine Ev.step (f := fun _ => some ([], (i : Int), 5)) (fun k => ?_) (Ev.now _)
            simp only [lambrequinref08_Of.j1]
            rw [if_pos trivial, if_pos (by simp [hn])]
    · exact ih L i (by omega) h2 hk
theorem of_ev {ds : List S39} {rs : List S46} (h : Fits ds rs) : Ev (fun k => lambrequinref08_Of.f k ds rs) (runD [] 0 (usesD ds rs)) := by
  have := of_from (usesD ds rs) h.1 _ [] 0 (Nat.le_refl _) (by omega) rfl
  rw [List.drop_zero] at this
  exact Ev.bind (uses_ev h) this

theorem same_from (a b : List S39) (hab : a.length = b.length) (hl : a.length ≤ 1000000000000000) (d : Nat) : ∀ i : Nat, a.length - i ≤ d → i ≤ a.length → Ev (fun k => lambrequinref08_Same.l0 k a b (i : Int)) (decide (a.drop i = b.drop i)) := by
  induction d with
  | zero =>
    intro i h1 h2
    rw [List.drop_eq_nil_of_le (by omega), List.drop_eq_nil_of_le (by omega)]
    refine Ev.step (f := fun _ => some true) (fun k => ?_) (by simpa using Ev.now true)
    simp only [lambrequinref08_Same.l0]
    rw [if_neg (by omega)]
  | succ d ih =>
    intro i h1 h2
    by_cases hi : i < a.length
    · have e := rd39_nat hi
      have e' := rd39_nat (l := b) (i := i) (by omega)
      have hda : a.drop i = a[i] :: a.drop (i + 1) := List.drop_eq_getElem_cons hi
      have hdb : b.drop i = b[i]'(by omega) :: b.drop (i + 1) := List.drop_eq_getElem_cons (by omega)
      rw [hda, hdb]
      by_cases hq : a[i] = b[i]'(by omega)
      · refine Ev.step (f := fun k => lambrequinref08_Same.l0 k a b ((i + 1 : Nat) : Int)) (fun k => ?_) (by rw [decide_eq_decide.2 ⟨fun h => (List.cons.inj h).2, fun h => by rw [hq, h]⟩]; exact ih (i + 1) (by omega) (by omega))
        simp only [lambrequinref08_Same.l0]
        rw [if_pos (by omega), if_pos (by omega), if_pos (by omega), e, e', hq, if_neg (by simp), wrap_succ i (by omega)]
      · refine Ev.step (f := fun _ => some false) (fun k => ?_) (by rw [decide_eq_false (fun h => hq (List.cons.inj h).1)]; exact Ev.now false)
        simp only [lambrequinref08_Same.l0]
        rw [if_pos (by omega), if_pos (by omega), if_pos (by omega), e, e', if_pos]
        have hne : ¬ (a[i].f0 = (b[i]'(by omega)).f0 ∧ a[i].f1 = (b[i]'(by omega)).f1) := fun h => hq (by
          generalize a[i] = x at h
          generalize b[i]'(by omega) = y at h
          cases x; cases y; simp_all)
        by_cases h0 : a[i].f0 = (b[i]'(by omega)).f0
        · have h1 : ¬ a[i].f1 = (b[i]'(by omega)).f1 := fun h => hne ⟨h0, h⟩
          simp [h1]
        · have h1 : ¬ a[i].f0.toList = (b[i]'(by omega)).f0.toList := fun h => h0 (bytes_eq h)
          simp [h1]
    · exact ih i (by omega) h2
theorem same_ev {a b : List S39} (hl : a.length ≤ 1000000000000000) : Ev (fun k => lambrequinref08_Same.f k a b) (decide (a = b)) := by
  by_cases h : a.length = b.length
  · have := same_from a b h hl _ 0 (Nat.le_refl _) (by omega)
    refine Ev.congr (f := fun k => lambrequinref08_Same.l0 k a b ((0 : Nat) : Int)) (fun k => ?_) (by simpa using this)
    simp only [lambrequinref08_Same.f]
    rw [if_pos (by omega)]
    rfl
  · refine Ev.congr (f := fun _ => some false) (fun k => ?_) ?_
    · simp only [lambrequinref08_Same.f]
      rw [if_neg (by omega)]
    · have : ¬ a = b := fun e => h (by rw [e])
      simpa [this] using Ev.now false
end Go.Proofs.Ytpcadcmfdbhmhaa.P
