/- ArityTells, ArityAgrees: the printed laws come to true wherever the program fits. -/
import Derived.Test.YtpcadcmfdbhmhaaRefs
namespace Go.Proofs.Ytpcadcmfdbhmhaa.P
open Go.RowKit Go.Proofs.YtpcadcmfdbhmhaaW.PrintWords Go.Proofs.YtpcadcmfdbhmhaaW.PrintLast Go.Proofs.YtpcadcmfdbhmhaaW.PrintMore

theorem of_some {ds : List S39} {rs : List S46} (h : Fits ds rs) : arity_Of.f ds rs = some (runD [] 0 (usesD ds rs)) := by
  unfold arity_Of.f
  rw [if_pos h.1]
theorem runD_length (us : List S39) : ∀ (L : List S39) (k : Nat), (runD L k us).1.length ≤ L.length + us.length := by
  induction us with
  | nil => intro L k; simp [runD]
  | cons d us ih =>
    intro L k
    cases hs : stepD L d with
    | none => simp [runD, hs]
    | some M =>
      simp only [runD, hs]
      have := ih M (k + 1)
      have := stepD_length hs
      rw [List.length_cons]
      omega
theorem runD_clash (us : List S39) : ∀ (L : List S39) (k : Nat), us.foldl (fun o d => o.bind fun L => stepD L d) (some L) = none → ∃ j : Nat, runD L k us = ([], (j : Int), 5) ∧ j < k + us.length := by
  induction us with
  | nil => intro L k h; cases h
  | cons d us ih =>
    intro L k h
    simp only [List.foldl_cons, Option.bind_some] at h
    cases hs : stepD L d with
    | none => exact ⟨k, by simp [runD, hs], by simp⟩
    | some M =>
      rw [hs] at h
      obtain ⟨j, h1, h2⟩ := ih M (k + 1) h
      exact ⟨j, by simp [runD, hs, h1], by rw [List.length_cons]; omega⟩

theorem tells_ev {ds : List S39} {rs : List S46} (l : List S39) (p : ByteArray) (h : Fits ds rs) (hl : l.length ≤ 1000000000000000) : Ev (fun k => lambrequinlaw08_ArityTells.f k ds rs l p) true := by
  have hlen := runD_length (usesD ds rs) [] 0
  have h1 := h.1
  rw [List.length_nil] at hlen
  by_cases hf : ((usesD ds rs).length : Int) ≤ 300
  · have hfe := few_ev h
    rw [decide_eq_true hf] at hfe
    have hs := same_ev (a := (runD [] 0 (usesD ds rs)).1) (b := (runD [] 0 (usesD ds rs)).1) (by omega)
    rw [decide_eq_true rfl] at hs
    refine Ev.bind (g := fun _ => lambrequinlaw08_shown.f) (Ev.now true) (Ev.bind hfe ?_)
    simp only [if_true]
    refine Ev.bind (g := fun _ => arity_Of.f ds rs) (by rw [of_some h]; exact Ev.now _) (Ev.bind (of_ev h) (Ev.bind (g := fun _ => arity_Find.f l p) (Ev.now _) (Ev.bind (find_ev p hl) ?_)))
    refine Ev.bind hs ?_
    simp only [if_true]
    simpa using Ev.now true
  · have hfe := few_ev h
    rw [decide_eq_false hf] at hfe
    refine Ev.bind (g := fun _ => lambrequinlaw08_shown.f) (Ev.now true) (Ev.bind hfe ?_)
    simpa using Ev.now true

theorem kept_at {us pre rest : List S39} {d : S39} {L : List S39} (h : keptD us = some L) (he : us = pre ++ d :: rest) : ∃ M, keptD pre = some M ∧ ∃ M', stepD M d = some M' := by
  subst he
  unfold keptD at h
  rw [List.foldl_append, List.foldl_cons] at h
  cases hp : pre.foldl (fun o d => o.bind fun L => stepD L d) (some []) with
  | none => rw [hp, Option.bind_none, foldl_none] at h; cases h
  | some M =>
    rw [hp, Option.bind_some] at h
    cases hs : stepD M d with
    | none => rw [hs, foldl_none] at h; cases h
    | some M' => exact ⟨M, hp, M', hs⟩
theorem kept_agrees {us : List S39} {d : S39} {L : List S39} (h : keptD us = some L) (hd : d ∈ us) : findD L d.f0 = some d.f1 := by
  obtain ⟨pre, rest, he⟩ := List.append_of_mem hd
  obtain ⟨M, hM, M', hs⟩ := kept_at h he
  rw [kept_find h, he, findD_append, ← kept_find hM]
  unfold stepD at hs
  cases hf : findD M d.f0 with
  | none => simp [findD]
  | some n =>
    rw [hf] at hs
    by_cases hn : n = d.f1
    · rw [hn]; rfl
    · simp only [hn, if_false] at hs
      cases hs
theorem findD_mem {l : List S39} {d : S39} (h : d ∈ l) : ∃ n, findD l d.f0 = some n := by
  induction l with
  | nil => cases h
  | cons e l ih =>
    by_cases he : e.f0 = d.f0
    · exact ⟨e.f1, by simp [findD, he]⟩
    · rcases List.mem_cons.1 h with rfl | h
      · exact absurd rfl he
      · obtain ⟨n, hn⟩ := ih h
        exact ⟨n, by simp [findD, he, hn]⟩
theorem kept_once (us : List S39) : ∀ (L L' : List S39), (∀ (i : Nat) (h : i < L.length), findD (L.take i) L[i].f0 = none) → us.foldl (fun o d => o.bind fun L => stepD L d) (some L) = some L' → ∀ (i : Nat) (h : i < L'.length), findD (L'.take i) L'[i].f0 = none := by
  induction us with
  | nil => intro L L' hL h; cases h; exact hL
  | cons d us ih =>
    intro L L' hL h
    simp only [List.foldl_cons, Option.bind_some] at h
    cases hs : stepD L d with
    | none => rw [hs, foldl_none] at h; cases h
    | some M =>
      rw [hs] at h
      refine ih M L' ?_ h
      unfold stepD at hs
      cases hf : findD L d.f0 with
      | none =>
        rw [hf] at hs
        cases hs
        intro i hi
        rw [List.length_append, List.length_singleton] at hi
        by_cases hlt : i < L.length
        · rw [List.take_append_of_le_length (by omega), List.getElem_append_left hlt]
          exact hL i hlt
        · obtain rfl : i = L.length := by omega
          simpa using hf
      | some n =>
        rw [hf] at hs
        by_cases hn : n = d.f1
        · simp only [hn, if_true] at hs
          cases hs
          exact hL
        · simp only [hn, if_false] at hs
          cases hs

theorem agrees_l1 (L us : List S39) (hL : L.length ≤ 1000000000000000) (hus : us.length ≤ 1000000000000000) (hk : keptD us = some L) (d : Nat) : ∀ i : Nat, L.length - i ≤ d → Ev (fun k => lambrequinlaw08_ArityAgrees.l1 k true L us (i : Int)) true := by
  induction d with
  | zero =>
    intro i h1
    refine Ev.step (f := fun _ => some true) (fun k => ?_) (Ev.now _)
    simp only [lambrequinlaw08_ArityAgrees.l1]
    rw [if_neg (by omega)]
  | succ d ih =>
    intro i h1
    by_cases hi : i < L.length
    · have e := rd39_nat hi
      obtain ⟨n, hn⟩ := findD_mem (List.getElem_mem hi)
      rw [kept_find hk] at hn
      have ho := kept_once us [] L (fun i h => absurd h (by simp)) hk i hi
      have h1 := find_ev (l := us) L[i].f0 hus
      have h2 := find_ev (l := L.take i) L[i].f0 (by rw [List.length_take]; omega)
      rw [foundD, hn] at h1
      rw [foundD, ho] at h2
      refine Ev.step (f := fun k => (lambrequinref08_Find.f k us L[i].f0).bind fun b => (lambrequinref08_Find.f k (L.take i) L[i].f0).bind fun c => if b.2 = true then (if c.2 = true then some false else lambrequinlaw08_ArityAgrees.l1 k true L us ((i + 1 : Nat) : Int)) else some false) (fun k => ?_) (Ev.bind h1 (Ev.bind h2 ?_))
      · simp only [lambrequinlaw08_ArityAgrees.l1]
        rw [if_pos (by omega), if_pos (by omega), e, wrap_succ i (by omega)]
        congr 1
        funext b
        rw [if_pos (by omega)]
        rfl
      · simpa using ih (i + 1) (by omega)
    · exact ih i (by omega)
theorem agrees_l0 (L us : List S39) (hL : L.length ≤ 1000000000000000) (hus : us.length ≤ 1000000000000000) (hk : keptD us = some L) (d : Nat) : ∀ i : Nat, us.length - i ≤ d → Ev (fun k => lambrequinlaw08_ArityAgrees.l0 k true L us (i : Int)) true := by
  induction d with
  | zero =>
    intro i h1
    refine Ev.step (f := fun k => lambrequinlaw08_ArityAgrees.l1 k true L us ((0 : Nat) : Int)) (fun k => ?_) (agrees_l1 L us hL hus hk _ 0 (Nat.le_refl _))
    simp only [lambrequinlaw08_ArityAgrees.l0]
    rw [if_neg (by omega)]
    rfl
  | succ d ih =>
    intro i h1
    by_cases hi : i < us.length
    · have e := rd39_nat hi
      have ha := kept_agrees hk (List.getElem_mem hi)
      refine Ev.step (f := fun k => lambrequinlaw08_ArityAgrees.l0 k true L us ((i + 1 : Nat) : Int)) (fun k => ?_) (ih (i + 1) (by omega))
      simp only [lambrequinlaw08_ArityAgrees.l0]
      rw [if_pos (by omega), if_pos (by omega), e, arity_Find.f, foundD, ha, Option.bind_some, if_pos rfl, if_pos rfl, wrap_succ i (by omega)]
    · exact ih i (by omega)
theorem agrees_ev {ds : List S39} {rs : List S46} (h : Fits ds rs) : Ev (fun k => lambrequinlaw08_ArityAgrees.f k ds rs) true := by
  have h1 := h.1
  by_cases hf : ((usesD ds rs).length : Int) ≤ 300
  · have hfe := few_ev h
    rw [decide_eq_true hf] at hfe
    refine Ev.bind (g := fun _ => lambrequinlaw08_shown.f) (Ev.now true) (Ev.bind hfe ?_)
    simp only [if_true]
    refine Ev.bind (g := fun _ => arity_Of.f ds rs) (by rw [of_some h]; exact Ev.now _) ?_
    cases hk : keptD (usesD ds rs) with
    | some L =>
      have hL := kept_length _ [] L hk
      rw [List.length_nil] at hL
      rw [runD_kept _ _ _ _ hk]
      simp only [if_true]
      exact Ev.bind (uses_ev h) (agrees_l0 L _ (by omega) (by omega) hk _ 0 (Nat.le_refl _))
    | none =>
      obtain ⟨j, hj, _⟩ := runD_clash _ [] 0 hk
      rw [hj]
      simpa using Ev.now true
  · have hfe := few_ev h
    rw [decide_eq_false hf] at hfe
    refine Ev.bind (g := fun _ => lambrequinlaw08_shown.f) (Ev.now true) (Ev.bind hfe ?_)
    simpa using Ev.now true
end Go.Proofs.Ytpcadcmfdbhmhaa.P
