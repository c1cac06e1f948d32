/- Plain laws on kept lists: order of rules, what is declared again, one rule more. No program in sight. -/
import Derived.Test.YtpcadcmfdbhmhaaAgree
namespace Go.Proofs.Ytpcadcmfdbhmhaa.P
open Go.RowKit Go.Proofs.YtpcadcmfdbhmhaaW.PrintWords Go.Proofs.YtpcadcmfdbhmhaaW.PrintLast Go.Proofs.YtpcadcmfdbhmhaaW.PrintMore

theorem kept_fits {us L : List S39} (h : keptD us = some L) {d : S39} (hd : d ∈ us) : findD us d.f0 = some d.f1 := by
  rw [← kept_find h]
  exact kept_agrees h hd
theorem kept_of_from (us : List S39) : ∀ L : List S39, (∀ d ∈ us, ∀ n, findD L d.f0 = some n → n = d.f1) → (∀ d ∈ us, ∀ e ∈ us, d.f0 = e.f0 → d.f1 = e.f1) → ∃ M, us.foldl (fun o d => o.bind fun L => stepD L d) (some L) = some M := by
  induction us with
  | nil => intro L _ _; exact ⟨L, rfl⟩
  | cons d us ih =>
    intro L h c
    have c' : ∀ e ∈ us, ∀ e' ∈ us, e.f0 = e'.f0 → e.f1 = e'.f1 := fun e he e' he' => c e (List.mem_cons_of_mem _ he) e' (List.mem_cons_of_mem _ he')
    simp only [List.foldl_cons, Option.bind_some]
    cases hf : findD L d.f0 with
    | none =>
      have : stepD L d = some (L ++ [d]) := by unfold stepD; rw [hf]
      rw [this]
      refine ih _ (fun e he n hn => ?_) c'
      rw [findD_append] at hn
      cases hg : findD L e.f0 with
      | some m =>
        rw [hg] at hn
        obtain rfl : m = n := by simpa using hn
        exact h e (List.mem_cons_of_mem _ he) m hg
      | none =>
        rw [hg] at hn
        by_cases hde : d.f0 = e.f0
        · have : d.f1 = n := by simpa [findD, hde] using hn
          rw [← this]
          exact c d (List.mem_cons_self ..) e (List.mem_cons_of_mem _ he) hde
        · simp [findD, hde] at hn
    | some n =>
      have hn := h d (List.mem_cons_self ..) n hf
      have : stepD L d = some L := by unfold stepD; rw [hf, hn]; simp
      rw [this]
      exact ih _ (fun e he => h e (List.mem_cons_of_mem _ he)) c'
theorem kept_of {us : List S39} (c : ∀ d ∈ us, ∀ e ∈ us, d.f0 = e.f0 → d.f1 = e.f1) : ∃ M, keptD us = some M := kept_of_from us [] (fun _ _ _ h => by cases h) c
theorem kept_agree {us L : List S39} (h : keptD us = some L) : ∀ d ∈ us, ∀ e ∈ us, d.f0 = e.f0 → d.f1 = e.f1 := by
  intro d hd e he hde
  have a := kept_fits h hd
  have b := kept_fits h he
  rw [hde, b] at a
  exact (Option.some.inj a).symm
theorem kept_mem (us : List S39) : ∀ (L M : List S39), us.foldl (fun o d => o.bind fun L => stepD L d) (some L) = some M → ∀ d ∈ M, d ∈ L ∨ d ∈ us := by
  induction us with
  | nil => intro L M h d hd; cases h; exact .inl hd
  | cons e us ih =>
    intro L M h d hd
    simp only [List.foldl_cons, Option.bind_some] at h
    cases hs : stepD L e with
    | none => rw [hs, foldl_none] at h; cases h
    | some K =>
      rw [hs] at h
      rcases ih K M h d hd with hk | hu
      · unfold stepD at hs
        cases hf : findD L e.f0 with
        | none =>
          rw [hf] at hs
          cases hs
          rcases List.mem_append.1 hk with hk | hk
          · exact .inl hk
          · obtain rfl : d = e := by simpa using hk
            exact .inr (List.mem_cons_self ..)
        | some n =>
          rw [hf] at hs
          by_cases hn : n = e.f1
          · simp only [hn, if_true] at hs
            cases hs
            exact .inl hk
          · simp only [hn, if_false] at hs
            cases hs
      · exact .inr (List.mem_cons_of_mem _ hu)
def Once (L : List S39) : Prop := ∀ (i : Nat) (h : i < L.length), findD (L.take i) L[i].f0 = none
theorem kept_Once {us L : List S39} (h : keptD us = some L) : Once L := kept_once us [] L (fun i h => absurd h (by simp)) h
theorem findD_none {l : List S39} {p : ByteArray} (h : findD l p = none) : ∀ d ∈ l, d.f0 ≠ p := by
  intro d hd e
  obtain ⟨n, hn⟩ := findD_mem hd
  rw [e, h] at hn
  cases hn
theorem findD_some {l : List S39} {p : ByteArray} {n : Int} (h : findD l p = some n) : ∃ d ∈ l, d.f0 = p ∧ d.f1 = n := by
  induction l with
  | nil => cases h
  | cons d l ih =>
    by_cases hd : d.f0 = p
    · exact ⟨d, List.mem_cons_self .., hd, by simpa [findD, hd] using h⟩
    · obtain ⟨e, he, h1, h2⟩ := ih (by simpa [findD, hd] using h)
      exact ⟨e, List.mem_cons_of_mem _ he, h1, h2⟩
theorem Once.nodup {L : List S39} (h : Once L) : (L.map S39.f0).Nodup := by
  rw [List.nodup_iff_pairwise_ne, List.pairwise_iff_getElem]
  intro i j hi hj hij e
  rw [List.length_map] at hi hj
  have := findD_none (h j hj) L[i] (List.mem_take_iff_getElem.2 ⟨i, by omega, rfl⟩)
  simp only [List.getElem_map] at e
  exact this e
theorem nodup_le {α : Type} [DecidableEq α] : ∀ (a b : List α), a.Nodup → (∀ x ∈ a, x ∈ b) → a.length ≤ b.length
  | [], _, _, _ => Nat.zero_le _
  | x :: a, b, hn, hs => by
    obtain ⟨h1, h2⟩ := List.nodup_cons.1 hn
    have hx := hs x (List.mem_cons_self ..)
    have := nodup_le a (b.erase x) h2 (fun y hy => (List.mem_erase_of_ne (fun e => h1 (by rw [← e]; exact hy))).2 (hs y (List.mem_cons_of_mem _ hy)))
    rw [List.length_erase_of_mem hx] at this
    have hp := List.length_pos_of_mem hx
    rw [List.length_cons]
    omega
/-- What the order of rules comes to. -/
def OrderOk (us vs : List S39) : Prop := (keptD us = none ∧ keptD vs = none) ∨ ∃ L M, keptD us = some L ∧ keptD vs = some M ∧ L.length = M.length ∧ ∀ d ∈ L, findD M d.f0 = some d.f1
theorem kept_names {us vs L M : List S39} (hm : ∀ d, d ∈ us → d ∈ vs) (hL : keptD us = some L) (hM : keptD vs = some M) : L.length ≤ M.length ∧ ∀ d ∈ L, findD M d.f0 = some d.f1 := by
  have hv : ∀ d ∈ L, findD M d.f0 = some d.f1 := by
    intro d hd
    rcases kept_mem us [] L hL d hd with h | h
    · cases h
    · exact kept_agrees hM (hm d h)
  refine ⟨?_, hv⟩
  have := nodup_le (L.map S39.f0) (M.map S39.f0) (kept_Once hL).nodup (fun x hx => by
    obtain ⟨d, hd, rfl⟩ := List.mem_map.1 hx
    obtain ⟨e, he, h1, _⟩ := findD_some (hv d hd)
    exact List.mem_map.2 ⟨e, he, h1⟩)
  simpa using this
theorem order_ok {us vs : List S39} (hm : ∀ d, d ∈ us ↔ d ∈ vs) : OrderOk us vs := by
  cases hu : keptD us with
  | none =>
    left
    refine ⟨hu, ?_⟩
    cases hv : keptD vs with
    | none => rfl
    | some M =>
      obtain ⟨L, hL⟩ := kept_of (us := us) (fun d hd e he => kept_agree hv d ((hm d).1 hd) e ((hm e).1 he))
      rw [hu] at hL
      cases hL
  | some L =>
    right
    obtain ⟨M, hM⟩ := kept_of (us := vs) (fun d hd e he => kept_agree hu d ((hm d).2 hd) e ((hm e).2 he))
    have a := kept_names (fun d h => (hm d).1 h) hu hM
    have b := kept_names (fun d h => (hm d).2 h) hM hu
    exact ⟨L, M, hu, hM, Nat.le_antisymm a.1 b.1, a.2⟩
theorem uses_turned (ds : List S39) (rs : List S46) (k : Nat) (d : S39) : d ∈ usesD ds rs ↔ d ∈ usesD ds (rs.drop k ++ rs.take k) := by
  unfold usesD
  conv => lhs; rw [← List.take_append_drop k rs]
  simp only [List.mem_append, List.flatMap_append]
  constructor <;> (intro h; rcases h with h | h | h <;> simp [h])

theorem kept_self {L : List S39} (h : Once L) : keptD L = some L := by
  have : ∀ i, i ≤ L.length → keptD (L.take i) = some (L.take i) := by
    intro i
    induction i with
    | zero => intro _; simp [keptD]
    | succ i ih =>
      intro hi
      rw [List.take_succ_eq_append_getElem (by omega), keptD_snoc, ih (by omega)]
      simp only [Option.bind_some]
      unfold stepD
      rw [h i (by omega)]
  simpa using this L.length (Nat.le_refl _)
theorem kept_more (us : List S39) (L : List S39) (h : ∀ d ∈ us, findD L d.f0 = some d.f1) : us.foldl (fun o d => o.bind fun L => stepD L d) (some L) = some L := by
  induction us with
  | nil => rfl
  | cons d us ih =>
    have : stepD L d = some L := by unfold stepD; rw [h d (List.mem_cons_self ..)]; simp
    simp only [List.foldl_cons, Option.bind_some]
    rw [this]
    exact ih (fun e he => h e (List.mem_cons_of_mem _ he))
/-- What is told, declared: the same again. -/
theorem told_again {ds us L : List S39} (h : keptD (ds ++ us) = some L) : keptD (L ++ us) = some L := by
  have h1 : keptD (L ++ us) = us.foldl (fun o d => o.bind fun L => stepD L d) (keptD L) := by unfold keptD; rw [List.foldl_append]
  rw [h1, kept_self (kept_Once h)]
  exact kept_more us L (fun d hd => kept_agrees h (List.mem_append.2 (.inr hd)))
theorem findD_at {L : List S39} (h : Once L) {i : Nat} (hi : i < L.length) : findD L L[i].f0 = some L[i].f1 := by
  have e : L = L.take i ++ L[i] :: L.drop (i + 1) := by rw [← List.drop_eq_getElem_cons hi, List.take_append_drop]
  conv => lhs; arg 1; rw [e]
  rw [findD_append, h i hi]
  simp [findD]
/-- One of them, told otherwise. -/
def offD (L : List S39) (k : Nat) : List S39 := match L[k]? with
  | some d => L.set k ⟨d.f0, wrap64 (d.f1 + 1)⟩
  | none => L
theorem off_once {L : List S39} (h : Once L) (k : Nat) (hk : k < L.length) : Once (offD L k) := by
  have hn := h.nodup
  have hm : (offD L k).map S39.f0 = L.map S39.f0 := by
    unfold offD
    rw [List.getElem?_eq_getElem hk]
    apply List.ext_getElem
    · simp
    · intro i h1 h2
      simp only [List.getElem_map, List.getElem_set]
      split
      · next e => subst e; rfl
      · rfl
  intro i hi
  cases hf : findD ((offD L k).take i) (offD L k)[i].f0 with
  | none => rfl
  | some n =>
    obtain ⟨d, hd, h1, _⟩ := findD_some hf
    obtain ⟨j, hj, rfl⟩ := List.mem_take_iff_getElem.1 hd
    rw [← hm, List.nodup_iff_pairwise_ne, List.pairwise_iff_getElem] at hn
    have := hn j i (by simp; omega) (by simpa using hi) (by omega)
    simp only [List.getElem_map] at this
    exact absurd h1 this
theorem wrap_off (x : Int) : wrap64 (x + 1) ≠ x := by unfold wrap64; omega
theorem told_off {L us : List S39} (h : Once L) (k : Nat) (hk : k < L.length) (h0 : wrap64 (L[k].f1 + 1) ≠ L[k].f1) : runD [] 0 ((offD L k ++ [L[k]]) ++ us) = ([], (L.length : Int), 5) := by
  have ho := off_once h k hk
  have hl : (offD L k).length = L.length := by unfold offD; rw [List.getElem?_eq_getElem hk]; simp
  have hk' : k < (offD L k).length := by omega
  have hs : stepD (offD L k) L[k] = none := by
    have hf := findD_at ho hk'
    have he : (offD L k)[k] = ⟨L[k].f0, wrap64 (L[k].f1 + 1)⟩ := by
      have : (offD L k)[k]? = some ⟨L[k].f0, wrap64 (L[k].f1 + 1)⟩ := by unfold offD; rw [List.getElem?_eq_getElem hk]; simp [hk]
      exact (List.getElem?_eq_some_iff.1 this).2
    rw [he] at hf
    unfold stepD
    rw [hf]
    simp [h0]
  have := runD_part (offD L k) L[k] us [] 0 (offD L k) (kept_self ho) hs
  rw [List.append_assoc, List.singleton_append, this, hl]
  simp

theorem runD_some (us : List S39) : ∀ (L M : List S39) (k : Nat) (x : List S39), us.foldl (fun o d => o.bind fun L => stepD L d) (some L) = some M → runD L k (us ++ x) = runD M (k + us.length) x := by
  induction us with
  | nil => intro L M k x h; cases h; simp
  | cons d us ih =>
    intro L M k x h
    simp only [List.foldl_cons, Option.bind_some] at h
    cases hs : stepD L d with
    | none => rw [hs, foldl_none] at h; cases h
    | some K =>
      rw [hs] at h
      rw [List.cons_append, runD, hs]
      simp only []
      rw [ih K M (k + 1) x h, List.length_cons]
      congr 1
      omega
theorem runD_none (us : List S39) : ∀ (L : List S39) (k : Nat) (x : List S39), us.foldl (fun o d => o.bind fun L => stepD L d) (some L) = none → runD L k (us ++ x) = runD L k us := by
  induction us with
  | nil => intro L k x h; cases h
  | cons d us ih =>
    intro L k x h
    simp only [List.foldl_cons, Option.bind_some] at h
    rw [List.cons_append, runD, runD]
    cases hs : stepD L d with
    | none => rfl
    | some K =>
      rw [hs] at h
      exact ih K (k + 1) x h
theorem runD_late (us : List S39) : ∀ (L : List S39) (k : Nat), us.foldl (fun o d => o.bind fun L => stepD L d) (some L) = none → ∃ j : Nat, runD L k us = ([], (j : Int), 5) ∧ j < k + us.length ∧ k ≤ j := by
  induction us with
  | nil => intro L k h; cases h
  | cons d us ih =>
    intro L k h
    simp only [List.foldl_cons, Option.bind_some] at h
    cases hs : stepD L d with
    | none => exact ⟨k, by simp [runD, hs], by simp, Nat.le_refl _⟩
    | some M =>
      rw [hs] at h
      obtain ⟨j, h1, h2, h3⟩ := ih M (k + 1) h
      exact ⟨j, by simp [runD, hs, h1], by rw [List.length_cons]; omega, by omega⟩
theorem kept_prefix (us : List S39) : ∀ (L M : List S39), us.foldl (fun o d => o.bind fun L => stepD L d) (some L) = some M → ∃ t, M = L ++ t := by
  induction us with
  | nil => intro L M h; cases h; exact ⟨[], by simp⟩
  | cons d us ih =>
    intro L M h
    simp only [List.foldl_cons, Option.bind_some] at h
    cases hs : stepD L d with
    | none => rw [hs, foldl_none] at h; cases h
    | some K =>
      rw [hs] at h
      obtain ⟨t, rfl⟩ := ih K M h
      unfold stepD at hs
      cases hf : findD L d.f0 with
      | none =>
        rw [hf] at hs
        cases hs
        exact ⟨[d] ++ t, by simp⟩
      | some n =>
        rw [hf] at hs
        by_cases hn : n = d.f1
        · simp only [hn, if_true] at hs
          cases hs
          exact ⟨t, rfl⟩
        · simp only [hn, if_false] at hs
          cases hs
/-- What one rule more comes to. -/
def MoreOk (us x : List S39) : Prop := (∃ j : Nat, runD [] 0 us = ([], (j : Int), 5) ∧ runD [] 0 (us ++ x) = ([], (j : Int), 5)) ∨
  ∃ L, runD [] 0 us = (L, 0, 0) ∧ L.length ≤ us.length ∧ ((∃ j : Nat, runD [] 0 (us ++ x) = ([], (j : Int), 5) ∧ us.length ≤ j) ∨ ∃ t, runD [] 0 (us ++ x) = (L ++ t, 0, 0) ∧ (L ++ t).length ≤ (us ++ x).length)
theorem more_ok (us x : List S39) : MoreOk us x := by
  cases hu : keptD us with
  | none =>
    left
    obtain ⟨j, h1, _⟩ := runD_late us [] 0 hu
    exact ⟨j, h1, by rw [runD_none us [] 0 x hu, h1]⟩
  | some L =>
    right
    have h1 := runD_kept us [] 0 L hu
    have hlen : L.length ≤ us.length := by simpa using kept_length us [] L hu
    refine ⟨L, h1, hlen, ?_⟩
    have h2 := runD_some us [] L 0 x hu
    rw [h2]
    cases hx : x.foldl (fun o d => o.bind fun L => stepD L d) (some L) with
    | none =>
      left
      obtain ⟨j, h3, _, h4⟩ := runD_late x L (0 + us.length) hx
      exact ⟨j, h3, by omega⟩
    | some M =>
      right
      obtain ⟨t, rfl⟩ := kept_prefix x L M hx
      refine ⟨t, runD_kept x L _ _ hx, ?_⟩
      have := kept_length x L _ hx
      rw [show (us ++ x).length = us.length + x.length from List.length_append]
      omega
theorem uses_length_turned (ds : List S39) (rs : List S46) (k : Nat) : (usesD ds (rs.drop k ++ rs.take k)).length = (usesD ds rs).length := by
  unfold usesD
  conv => rhs; rw [← List.take_append_drop k rs]
  simp only [List.length_append, List.flatMap_append]
  omega
theorem fits_turned {ds : List S39} {rs : List S46} (h : Fits ds rs) (k : Nat) : Fits ds (rs.drop k ++ rs.take k) := by
  refine ⟨by rw [uses_length_turned]; exact h.1, ?_, ?_⟩
  · have := h.2.1
    rw [List.length_append, List.length_drop, List.length_take]
    omega
  · intro r hr
    rcases List.mem_append.1 hr with hr | hr
    · exact h.2.2 r (List.mem_of_mem_drop hr)
    · exact h.2.2 r (List.mem_of_mem_take hr)
theorem order_runs {us vs : List S39} (h : OrderOk us vs) : ∃ L M p q e, runD [] 0 us = (L, p, e) ∧ runD [] 0 vs = (M, q, e) ∧ L.length = M.length ∧ L.length ≤ us.length ∧ ∀ d ∈ L, findD M d.f0 = some d.f1 := by
  rcases h with ⟨hu, hv⟩ | ⟨L, M, hu, hv, hl, hd⟩
  · obtain ⟨j1, hr1, _⟩ := runD_clash _ [] 0 hu
    obtain ⟨j2, hr2, _⟩ := runD_clash _ [] 0 hv
    exact ⟨_, _, _, _, _, hr1, hr2, rfl, Nat.zero_le _, fun d h => by cases h⟩
  · exact ⟨L, M, 0, 0, 0, runD_kept _ _ _ _ hu, runD_kept _ _ _ _ hv, hl, by simpa using kept_length us [] L hu, hd⟩
theorem litsD_le (ls : List S54) : (litsD ls).length ≤ ls.length := by
  rw [litsD, List.length_map]
  exact List.length_filter_le _ _
theorem atomsD_length (r : S46) : (atomsD r).length = (litsD r.f1).length + 1 := by simp [atomsD]
theorem uses_more (ds : List S39) (rs : List S46) (r : S46) : usesD ds (rs ++ [r]) = usesD ds rs ++ atomsD r := by simp [usesD]
theorem rules_le (ds : List S39) (rs : List S46) : rs.length ≤ (usesD ds rs).length := by
  have : rs.length ≤ (rs.flatMap atomsD).length := by
    induction rs with
    | nil => simp
    | cons r rs ih => rw [List.flatMap_cons, List.length_append, List.length_cons, atomsD_length]; omega
  rw [usesD, List.length_append]
  omega
theorem fits_more {ds : List S39} {rs : List S46} {r : S46} (h : Fits ds rs) (hf : ((usesD ds rs).length : Int) ≤ 300) (hr : r.f1.length ≤ 50) : Fits ds (rs ++ [r]) := by
  have := litsD_le r.f1
  have := rules_le ds rs
  refine ⟨?_, ?_, ?_⟩
  · rw [uses_more, List.length_append, atomsD_length]
    omega
  · rw [List.length_append, List.length_singleton]
    omega
  · intro s hs
    rcases List.mem_append.1 hs with hs | hs
    · exact h.2.2 s hs
    · obtain rfl : s = r := by simpa using hs
      omega
/-- The two runs, and how they stand to each other. -/
def MoreCase (n : Nat) (L M : List S39) (p1 p2 e1 e2 : Int) : Prop := (e1 = 5 ∧ e2 = 5 ∧ p1 = p2 ∧ M = []) ∨ (e1 = 0 ∧ e2 = 5 ∧ L.length ≤ n ∧ (n : Int) ≤ p2) ∨ (e1 = 0 ∧ e2 = 0 ∧ L.length ≤ n ∧ ∃ t, M = L ++ t)
theorem more_runs {us vs x : List S39} (h : MoreOk us x) (hv : vs = us ++ x := by rfl) : ∃ L M p1 p2 e1 e2, runD [] 0 us = (L, p1, e1) ∧ runD [] 0 vs = (M, p2, e2) ∧ MoreCase us.length L M p1 p2 e1 e2 ∧ M.length ≤ vs.length := by
  subst hv
  rcases h with ⟨j, h1, h2⟩ | ⟨L, h1, hl, ⟨j, h2, hj⟩ | ⟨t, h2, hl2⟩⟩
  · exact ⟨_, _, _, _, _, _, h1, h2, .inl ⟨rfl, rfl, rfl, rfl⟩, Nat.zero_le _⟩
  · exact ⟨_, _, _, _, _, _, h1, h2, .inr (.inl ⟨rfl, rfl, hl, by omega⟩), Nat.zero_le _⟩
  · exact ⟨_, _, _, _, _, _, h1, h2, .inr (.inr ⟨rfl, rfl, hl, t, rfl⟩), hl2⟩
end Go.Proofs.Ytpcadcmfdbhmhaa.P
