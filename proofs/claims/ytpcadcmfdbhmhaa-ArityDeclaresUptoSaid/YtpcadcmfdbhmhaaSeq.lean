/- A range over a function whose iterator itself ranges over a function: the contract's invariants are such as abide the turn of a loop's record too; a round leaves what is no cells and is newer than the call as it lay. -/
import Derived.RangeFuncNested
import Derived.RangeFuncBound
import Derived.RangeFuncCalls
import Derived.RangeFuncLeaves
namespace Go.Proofs.Ytpcadcmfdbhmhaa.P
open Go.RowKit

theorem ownFrom_later {β : Type} {B B' : Nat} {I : β → World → Prop} (h : OwnFrom B I) (hB : B ≤ B') : OwnFrom B' I :=
  fun s W W' row hs hg hr => h s W W' row hs hg (fun r e => ⟨Nat.le_trans hB (hr r e).1, (hr r e).2⟩)
theorem keepsFrom_later {B B' : Nat} {W W' : World} (h : KeepsFrom B W W') (hB : B ≤ B') : KeepsFrom B' W W' :=
  ⟨h.size, fun k o hk => h.same k o (Nat.le_trans hB hk)⟩
theorem roundIn_inRound {F : Fence} {m : Nat} {P : Program} {l : Nat} {f : FuncId} {tmps : Array Value} {assign body : Code} {w : World} {R : Ending → World → Prop} (l' : Nat)
    (h : RoundIn F m P l f tmps assign body w R) : RoundIn (F.inRound l') m P l f tmps assign body w R := h

/-- How a round ends. -/
def Turned {α : Type} (B : Nat) (Kp : World → World → Prop) (J Jx : List α → World → Prop) (pre : List α) (W : World) (e : Ending) (W' : World) : Prop :=
  KeepsFrom B W W' ∧ ((e = .returned (.bool true) ∧ J pre W' ∧ Kp W W') ∨ (e = .returned (.bool false) ∧ Jx pre W'))

/-- The iterator's contract. -/
def SeqO {α : Type} (F : Fence) (n : Nat) (P : Program) (g : Nat) (lb : Array Value) (encs : α → Array Value) (Kp : World → World → Prop) (S Sp : List α → Prop) (N : Nat) (w : World) : Prop :=
  ∀ (l : Nat) (J Jx : List α → World → Prop) (W : World), Below w.heap.size w W → OwnFrom W.heap.size J → OwnFrom W.heap.size Jx →
    (∀ m pre x W1, J pre W1 → pre.length < N → YieldAt F m P l (encs x) W1 (Turned W.heap.size Kp J Jx (pre ++ [x]) W1)) → J [] W →
    CallsIn F n P g (#[.func (.yield l) #[] #[]] ++ lb) W fun e W' => (∃ v, e = .returned v) ∧ ((∃ xs, S xs ∧ J xs W') ∨ (∃ pre, Sp pre ∧ Jx pre W'))

variable {F : Fence} {n : Nat} {P : Program}

/-- The loop's record stands so, its block for deferred calls is empty. -/
def Stands (rec : LoopState → Option Code → Loop) (B : Nat) (st : LoopState) (pe : Option Code) (W : World) : Prop :=
  W.heap[B + 1]? = some (.loop (rec st pe)) ∧ W.heap[B]? = some (.deferred (some []))
theorem Stands.keeps {rec : LoopState → Option Code → Loop} {B : Nat} {st : LoopState} {pe : Option Code} {W W' : World} (h : Stands rec B st pe W) (hk : KeepsFrom B W W') : Stands rec B st pe W' :=
  ⟨hk.same _ _ (Nat.le_succ _) h.1 rfl, hk.same _ _ (Nat.le_refl _) h.2 rfl⟩
theorem Stands.lt {rec : LoopState → Option Code → Loop} {B : Nat} {st : LoopState} {pe : Option Code} {W : World} (h : Stands rec B st pe W) : B + 1 < W.heap.size := (Array.getElem?_eq_some_iff.1 h.1).1
theorem Stands.turn {rec : LoopState → Option Code → Loop} {B : Nat} {st : LoopState} {pe : Option Code} {W : World} (h : Stands rec B st pe W) (st' : LoopState) (pe' : Option Code) : Stands rec B st' pe' (W.putObj (B + 1) (.loop (rec st' pe'))) :=
  ⟨World.putObj_heap_same h.lt, (World.putObj_heap_other (by omega)).trans h.2⟩
theorem Stands.own {α : Type} {rec : LoopState → Option Code → Loop} {B : Nat} (st : LoopState) (pe : Option Code) : OwnFrom (B + 2) (fun (_ : α) W => Stands rec B st pe W) := by
  intro s W W' row h hg hr
  have far : ∀ k, k < B + 2 → k < W.heap.size → W'.heap[k]? = W.heap[k]? := fun k h1 h2 => hg.block k h2 (fun e => by have := (hr k e.symm).1; omega)
  have hlt := h.lt
  exact ⟨(far _ (by omega) hlt).trans h.1, (far _ (by omega) (by omega)).trans h.2⟩
/-- The turn of the record, as the newer blocks see it. -/
theorem keeps_turn (W : World) (B : Nat) (o : Obj) : KeepsFrom (B + 2) W (W.putObj (B + 1) o) :=
  KeepsFrom.of_grownBy (grownBy_putObj' W (B + 1) o) (fun j e => by cases e; omega)

/-- The range statement over such an iterator. -/
theorem range_through {α : Type} {g : Operand} {ps : Array Tmp} {assign body : Code} {Q : Exit → Act → World → Prop} {a : Act} {w : World}
    (hro : F.round = none) (h1 : 1 ≤ n) {gf : Nat} {lb : Array Value} (hg : a.eval g = .func (.func gf) #[] lb) (hFg : F.fn gf) (eg : ∀ args w, (callFunc gf args).run P w = .ok (.enter gf args) w)
    {encs : α → Array Value} {Kp : World → World → Prop} {S Sp : List α → Prop} {N : Nat} (hseq : SeqO F (n - 1) P gf lb encs Kp S Sp N w)
    (hKt : ∀ {A B C : World}, Kp A B → Kp B C → Kp A C) (hKb : ∀ (W : World) (l : Nat) (o o' : Obj), w.heap.size ≤ l → W.heap[l]? = some o → o.isCells = false → o.isWalk = false → Kp W (W.putObj l o')) (hps : ∀ x, (encs x).size = ps.size)
    (I : List α → World → Prop) (Ix : Code → List α → World → Prop) (hI : OwnFrom w.heap.size I) (hIx : ∀ c, OwnFrom w.heap.size (Ix c)) (h0 : I [] w) (Ax : List α → α → Act → World → Prop) (hAx : ∀ pre x a', OwnFrom w.heap.size (fun (_ : Unit) W => Ax pre x a' W))
    (hassign : ∀ (l m : Nat) (pre : List α) (x : α) (W : World), w.heap.size ≤ l → I pre W → pre.length < N →
      assign.wpIn (F.inRound l) m P (Exit.then (fun a' W' => KeepsFrom w.heap.size W W' ∧ Kp W W' ∧ Ax pre x a' W') (fun _ _ _ => False)) { tmps := (ps.zip (encs x)).foldl (fun t (p, v) => t.setIfInBounds p v) a.tmps, defers := [] } W)
    (hbody : ∀ (l m : Nat) (pre : List α) (x : α) (a' : Act) (W : World), w.heap.size ≤ l → Ax pre x a' W → pre.length < N → body.wpIn (F.inRound l) m P (ownPostG w.heap.size Kp I Ix (pre ++ [x]) W) a' W)
    (hdone : ∀ (D : Nat) (xs : List α) (W : World), w.heap.size ≤ D → S xs → I xs W → W.heap[D]? = some (.deferred (some [])) → Q .normal { a with defers := { target := .collected D, args := #[] } :: a.defers } W)
    (hstop : ∀ (D : Nat) (c : Code) (pre : List α) (W : World), w.heap.size ≤ D → Sp pre → Ix c pre W → W.heap[D]? = some (.deferred (some [])) → c.wpIn F n P Q { a with defers := { target := .collected D, args := #[] } :: a.defers } W) :
    (Code.rangeFunc g ps assign body).wpIn F n P Q a w := by
  refine wpIn_rangeFunc fun fn hfn => ?_
  rw [hro]
  obtain ⟨B, hB⟩ : ∃ B, B = w.heap.size := ⟨_, rfl⟩
  obtain ⟨rec, hrec⟩ : ∃ rec : LoopState → Option Code → Loop, rec = fun st pe => { state := st, pending := pe, fn, tmps := a.tmps, params := ps, assign, body, defers := B } := ⟨_, rfl⟩
  have hre : ∀ st pe st' pe', ({ rec st pe with state := st', pending := pe' } : Loop) = rec st' pe' := fun _ _ _ _ => by rw [hrec]
  obtain ⟨W1, hW1⟩ : ∃ W1, (w.alloc (.deferred (some []))).alloc (.loop (rec .ready none)) = W1 := ⟨_, rfl⟩
  have hs1 : W1.heap.size = B + 2 := by rw [← hW1, hB]; simp
  have hst1 : Stands rec B .ready none W1 := by
    rw [← hW1, hB]
    refine ⟨?_, (Below.heap_alloc _ _ _ (by simp)).trans (World.alloc_heap_new w _)⟩
    have := World.alloc_heap_new (w.alloc (.deferred (some []))) (.loop (rec .ready none))
    rwa [World.size_alloc] at this
  have hI1 : I [] W1 := by rw [← hW1]; exact hI.alloc _ (hI.alloc _ h0)
  have hb1 : Below w.heap.size w W1 := by rw [← hW1]; exact ((Below.refl _ w).alloc (Nat.le_refl _) _).alloc (by simp) _
  refine ⟨B + 1, [{ target := .collected B, args := #[] }], W1, { target := .fn (.func gf) lb, args := #[.func (.yield (B + 1)) #[] #[]] }, W1, gf,
    #[.func (.yield (B + 1)) #[] #[]] ++ lb, W1, ?_, ?_, ?_, ?_, fun _ => h1, ?_⟩
  · rw [← hW1, hrec, hB]; exact run_enterLoop_outer _ _ _ _ _
  · simp only [resolve, hg]
    simp [go_sem]
  · intro f' hf'; simp [Target.leads] at hf'; subst hf'; exact hFg
  · simp [invoke, go_sem, eg]
  have own2 : ∀ {β : Type} {J : β → World → Prop}, OwnFrom w.heap.size J → OwnFrom W1.heap.size J := fun h => ownFrom_later h (by omega)
  refine (hseq (B + 1) (fun pre W => I pre W ∧ Stands rec B .ready none W) (fun pre W => ∃ c, Ix c pre W ∧ Stands rec B .done (some c) W) W1 hb1
    (OwnFrom.and (own2 hI) (by rw [hs1]; exact Stands.own _ _))
    (fun s A C row hs hg' hr => by obtain ⟨c, hc, hl⟩ := hs; exact ⟨c, own2 (hIx c) s A C row hc hg' hr, Stands.own (α := Unit) _ _ () A C row hl hg' (by rw [← hs1]; exact hr)⟩)
    ?_ ⟨hI1, hst1⟩).mono ?_
  · -- one round
    rintro m pre x W ⟨hi, hst⟩ hlt
    have hy := run_yield (P := P) (args := encs x) hst.1 (by rw [hrec]; exact hps x)
    rw [hrec] at hy
    refine ⟨fn, _, assign, body, hy, roundIn_of_wpIn hfn (wpIn_mono (hassign (B + 1) _ pre x W (by omega) hi hlt) ?_)⟩
    clear hy
    intro e a' Wa hp
    cases e with
    | normal =>
      obtain ⟨hka, hpa, hax⟩ := hp
      rw [← hB] at hka
      have hsa := hst.keeps hka
      obtain ⟨Wb, hWb⟩ : ∃ Wb, Wa.putObj (B + 1) (.loop (rec .busy none)) = Wb := ⟨_, rfl⟩
      refine ⟨Wb, by rw [run_beginRound hsa.1 (by rw [hrec]), ← hWb, ← hre .ready none .busy none, hrec], ?_⟩
      have hsb : Stands rec B .busy none Wb := by rw [← hWb]; exact hsa.turn _ _
      have hab : Kp Wa Wb := by rw [← hWb]; exact hKb _ _ _ _ (by omega) hsa.1 rfl rfl
      have hkb : KeepsFrom (B + 2) W Wb := (keepsFrom_later hka (by omega)).trans (by rw [← hWb]; exact keeps_turn _ _ _)
      have hxb : Ax pre x a' Wb := by rw [← hWb]; exact (hAx pre x a').putObj (s := ()) _ hax (by omega) hsa.1 rfl
      refine wpIn_mono (hbody (B + 1) _ pre x a' Wb (by omega) hxb hlt) ?_
      have fin : ∀ (j : Option Code) (Wc : World), KeepsFrom B Wb Wc → ∃ Wd, (Instr.endRound (B + 1) j).run P Wc = .ok (.bool j.isNone) Wd ∧ Wd = Wc.putObj (B + 1) (.loop (rec (if j.isNone then .ready else .done) j)) ∧
          Stands rec B .busy none Wc ∧ Stands rec B (if j.isNone then .ready else .done) j Wd ∧ KeepsFrom (B + 2) W Wd := fun j Wc hk => by
        have hsc := hsb.keeps hk
        refine ⟨_, by rw [run_endRound j hsc.1, ← hre .busy none (if j.isNone then .ready else .done) j], rfl, hsc, hsc.turn _ _, hkb.trans ((keepsFrom_later hk (by omega)).trans (keeps_turn _ _ _))⟩
      rintro e a3 Wc hp
      have jump : ∀ j : Code, KeepsFrom w.heap.size Wb Wc → Ix j (pre ++ [x]) Wc → ∃ v w', (Instr.endRound (B + 1) (some j)).run P Wc = .ok v w' ∧ Turned W1.heap.size Kp (fun pre W => I pre W ∧ Stands rec B .ready none W) (fun pre W => ∃ c, Ix c pre W ∧ Stands rec B .done (some c) W) (pre ++ [x]) W (.returned v) w' := fun j hk hi3 => by
        obtain ⟨Wd, hr, rfl, hsc, hsd, hkd⟩ := fin (some j) Wc (by rw [hB]; exact hk)
        exact ⟨_, _, hr, by rw [hs1]; exact hkd, .inr ⟨rfl, j, (hIx j).putObj _ hi3 (by omega) hsc.1 rfl, hsd⟩⟩
      cases e with
      | normal =>
        obtain ⟨hk, hkp, hi3⟩ := hp
        obtain ⟨Wd, hr, rfl, hsc, hsd, hkd⟩ := fin none Wc (by rw [hB]; exact hk)
        exact ⟨_, _, hr, by rw [hs1]; exact hkd, .inl ⟨rfl, ⟨hI.putObj _ hi3 (by omega) hsc.1 rfl, hsd⟩, hKt hpa (hKt hab (hKt hkp (hKb _ _ _ _ (by omega) hsc.1 rfl rfl)))⟩⟩
      | ret => exact jump _ hp.1 hp.2
      | exit id => exact jump _ hp.1 hp.2
      | goto t => exact jump _ hp.1 hp.2
      | panic ch => exact hp.elim
      | outgrown => exact hp.elim
    | ret => exact hp.elim
    | exit id => exact hp.elim
    | goto t => exact hp.elim
    | panic ch => exact hp.elim
    | outgrown => exact hp.elim
  · -- behind the iterator
    rintro e W2 ⟨⟨v, rfl⟩, (⟨xs, hS, hi, hst⟩ | ⟨pre, hSp, c, hi, hst⟩)⟩
    · refine ⟨none, W2.putObj (B + 1) (.loop (rec .exhausted none)), by rw [run_endLoop hst.1 (by rw [hrec]; simp), ← hre .ready none .exhausted none, hrec], ?_⟩
      exact hdone B xs _ (by omega) hS (hI.putObj _ hi (by omega) hst.1 rfl) ((World.putObj_heap_other (by omega)).trans hst.2)
    · refine ⟨some c, W2.putObj (B + 1) (.loop (rec .exhausted (some c))), by rw [run_endLoop hst.1 (by rw [hrec]; simp), ← hre .done (some c) .exhausted (some c), hrec], ?_⟩
      exact hstop B c pre _ (by omega) hSp ((hIx c).putObj _ hi (by omega) hst.1 rfl) ((World.putObj_heap_other (by omega)).trans hst.2)
end Go.Proofs.Ytpcadcmfdbhmhaa.P
