/- arity.Of answers as the plain fold over the uses does. -/
import Derived.Test.YtpcadcmfdbhmhaaUses
import Derived.Test.YtpcadcmfdbhmhaaFind
import Derived.Maps.OwnIn
namespace Go.Proofs.Ytpcadcmfdbhmhaa.P
open Go.RowKit Go.Shelf Go.Proofs.YtpcadcmfdbhmhaaW.PrintWords Go.Proofs.YtpcadcmfdbhmhaaW.PrintLast Go.Proofs.YtpcadcmfdbhmhaaW.PrintMore
attribute [local go_sem] Oper.semAt_some

/-- One use more. -/
def stepD (L : List S39) (d : S39) : Option (List S39) := match findD L d.f0 with
  | none => some (L ++ [d])
  | some n => if n = d.f1 then some L else none
/-- What a part of the uses tells; none: they clash. -/
def keptD (us : List S39) : Option (List S39) := us.foldl (fun o d => o.bind fun L => stepD L d) (some [])
/-- The whole answer. -/
def runD (L : List S39) (at_ : Nat) : List S39 → List S39 × Int × Int
  | [] => (L, 0, 0)
  | d :: us => match stepD L d with
    | none => ([], at_, 5)
    | some L' => runD L' (at_ + 1) us
def arity_Of.f (l0_0 : List S39) (l0_1 : List S46) : Option (List S39 × Int × Int) :=
  if (usesD l0_0 l0_1).length ≤ 5000000000000 then some (runD [] 0 (usesD l0_0 l0_1)) else none

theorem keptD_snoc (pre : List S39) (d : S39) : keptD (pre ++ [d]) = (keptD pre).bind fun L => stepD L d := by simp [keptD]
theorem foldl_none (us : List S39) : us.foldl (fun o d => o.bind fun L => stepD L d) none = none := by
  induction us with
  | nil => rfl
  | cons d us ih => simpa using ih
theorem runD_kept (us : List S39) : ∀ (L : List S39) (k : Nat) (L' : List S39), us.foldl (fun o d => o.bind fun L => stepD L d) (some L) = some L' → runD L k us = (L', 0, 0) := by
  induction us with
  | nil => intro L k L' h; cases h; rfl
  | cons d us ih =>
    intro L k L' h
    simp only [List.foldl_cons, Option.bind_some] at h
    cases hs : stepD L d with
    | none => rw [hs, foldl_none] at h; cases h
    | some M => rw [hs] at h; simp only [runD, hs]; exact ih M _ L' h
theorem runD_part (pre : List S39) (d : S39) (rest : List S39) : ∀ (L : List S39) (k : Nat) (L' : List S39), pre.foldl (fun o d => o.bind fun L => stepD L d) (some L) = some L' → stepD L' d = none → runD L k (pre ++ d :: rest) = ([], ((k + pre.length : Nat) : Int), 5) := by
  induction pre with
  | nil => intro L k L' h hd; cases h; simp [runD, hd]
  | cons e pre ih =>
    intro L k L' h hd
    simp only [List.foldl_cons, Option.bind_some] at h
    cases hs : stepD L e with
    | none => rw [hs, foldl_none] at h; cases h
    | some M =>
      rw [hs] at h
      simp only [List.cons_append, runD, hs]
      rw [ih M _ L' h hd, List.length_cons]
      congr 2
      omega
theorem stepD_length {L L' : List S39} {d : S39} (h : stepD L d = some L') : L'.length ≤ L.length + 1 := by
  unfold stepD at h
  cases hf : findD L d.f0 with
  | none => rw [hf] at h; cases h; simp
  | some n =>
    rw [hf] at h
    by_cases e : n = d.f1
    · simp only [e, if_true] at h; cases h; omega
    · simp only [e, if_false] at h; cases h
theorem kept_length (us : List S39) : ∀ (L L' : List S39), us.foldl (fun o d => o.bind fun L => stepD L d) (some L) = some L' → L'.length ≤ L.length + us.length := by
  induction us with
  | nil => intro L L' h; cases h; simp
  | cons d us ih =>
    intro L L' h
    simp only [List.foldl_cons, Option.bind_some] at h
    cases hs : stepD L d with
    | none => rw [hs, foldl_none] at h; cases h
    | some M => rw [hs] at h; have := ih M L' h; have := stepD_length hs; rw [List.length_cons]; omega

theorem uses_in (F : Fence) (n : Nat) (h17 : F.fn 17) (hro : F.round = none) (A0 A1 : Option Addr) (n0 n1 c0 c1 : Nat) (w : World) :
    CallsIn F n Try.prog 17 #[.agg #[.slice A0 n0 c0, .slice A1 n1 c1]] w fun e w' => e = .returned (.func (.func 20) #[] #[.pointer (some ⟨w.heap.size, 0, none⟩)]) ∧ w' = w.alloc (.cells #[.slice A0 n0 c0, .slice A1 n1 c1] 25) := by
  refine callsIn_of_wp Try.func17 rfl h17 ?_ hro
  simp only [Try.ntmps17, List.size_toArray, List.length_cons, List.length_nil, Nat.reduceAdd, Nat.reduceSub, Array.replicate_succ, Array.replicate_zero, List.push_toArray, List.append_toArray, List.nil_append, List.cons_append]
  gi_wp2
  go_ret
  exact ⟨rfl, rfl⟩

/-- A box of the function's own. -/
def Bx (W : World) (B : Nat) (t : TypeId) (v : Value) : Prop := W.heap[B]? = some (.cells #[v] t (0, 0))
theorem Bx.cell {W : World} {B : Nat} {t : TypeId} {v : Value} (h : Bx W B t v) : W.cell? ⟨B, 0, none⟩ = some v := (blk_cell h 0).trans rfl
theorem Bx.frozen {W : World} {B : Nat} {t : TypeId} {v : Value} (h : Bx W B t v) : W.frozen? ⟨B, 0, none⟩ = false := by simp [World.frozen?, show W.heap[B]? = _ from h]
theorem Bx.lt {W : World} {B : Nat} {t : TypeId} {v : Value} (h : Bx W B t v) : B < W.heap.size := (Array.getElem?_eq_some_iff.1 h).1
theorem Bx.alloc {W : World} {B : Nat} {t : TypeId} {v : Value} (h : Bx W B t v) (o : Obj) : Bx (W.alloc o) B t v := (Below.heap_alloc W o B h.lt).trans h
theorem Bx.new (W : World) (t : TypeId) (v : Value) : Bx (W.alloc (.cells #[v] t)) W.heap.size t v := blk_new W _
theorem Bx.own {β : Type} (n₀ B : Nat) (t : TypeId) (f : β → Value) : OwnFrom n₀ (fun s W => Bx W B t (f s)) := fun _ _ _ _ h hg hr => grownBy_blk h hg (fun r e => (hr r e).2)
theorem Bx.set {W : World} {B : Nat} {t : TypeId} {v : Value} (v' : Value) (h : Bx W B t v) : Bx (W.setCell ⟨B, 0, none⟩ v') B t v' := Boxed.set v' h
theorem Bx.other {W : World} {B B' : Nat} {t : TypeId} {v : Value} (h : Bx W B t v) (hne : B ≠ B') (u : Value) : Bx (W.setCell ⟨B', 0, none⟩ u) B t v := Boxed.other h hne u
theorem R_own {α β : Type} {d : Kd α} {e : Nat} (n₀ base : Nat) (hE : d.E = []) (v : β → Value) (L : β → List α) : OwnFrom n₀ (fun s W => Kd.R d e W base (fun _ => True) (v s) (L s)) := by
  intro s W W' row h hg hr
  refine Kd.R_grown2 h hE hg (fun k hk he => ?_)
  obtain ⟨o, ho, hc⟩ := (hr k hk).2
  obtain ⟨inner, hi⟩ := Kd.R_own h
  obtain ⟨cells, hh⟩ := own_typed hi k he.symm
  rw [ho] at hh
  cases hh
  cases hc

/-- A step of the body's own. -/
def Stp (n₀ : Nat) (W W' : World) : Prop := KeepsOthers W W' ∧ Kp n₀ W W'
theorem Stp.refl (n₀ : Nat) (W : World) : Stp n₀ W W := ⟨KeepsOthers.refl W, Below.refl _ W, KT.refl W⟩
theorem Stp.trans {n₀ : Nat} {A B C : World} (h : Stp n₀ A B) (k : Stp n₀ B C) : Stp n₀ A C := ⟨h.1.trans k.1, h.2.trans k.2⟩
theorem Stp.below {n₀ : Nat} {W W' : World} (hb : Below W.heap.size W W') (hn : n₀ ≤ W.heap.size) : Stp n₀ W W' :=
  ⟨⟨hb.size, fun k _ hk _ => (hb.block k (Array.getElem?_eq_some_iff.1 hk).1).trans hk⟩, hb.mono hn, KT.below hb⟩
theorem Stp.drew {n₀ : Nat} (W : World) (hn : n₀ ≤ W.heap.size) : Stp n₀ W W.drew := Stp.below (below_drew (Below.refl _ _)) hn
theorem Stp.alloc {n₀ : Nat} (W : World) (o : Obj) (hn : n₀ ≤ W.heap.size) : Stp n₀ W (W.alloc o) := Stp.below (below_alloc (Below.refl _ _) o) hn
theorem Stp.row {n₀ : Nat} {ok : Nat → Prop} {W W' : World} {v : Value} {L : List S39} (hR : Kd.R k39 39 W n₀ ok v L) (hg : W.grownBy W' v.ownBlock) (hn : n₀ ≤ W.heap.size) : Stp n₀ W W' := by
  have ht : ∀ k, v.ownBlock = some k → ∃ cells, W.heap[k]? = some (.cells cells 39 (0, 0)) := fun k hk => by obtain ⟨inner, hi⟩ := Kd.R_own hR; exact own_typed hi k hk
  refine ⟨KeepsOthers.of_grownBy hg (fun j o hj ho => ?_), (Below.refl n₀ W).grown hg hn (fun k hk => Kd.R_base hR k hk), KT.grown hg (fun k cs t hk hb => ?_)⟩
  · obtain ⟨cells, hc⟩ := ht j hj
    rw [ho] at hc; cases hc; rfl
  · obtain ⟨cells, hc⟩ := ht k hk
    rw [hb] at hc; cases hc; decide
theorem Stp.set {n₀ : Nat} {W : World} {B : Nat} {t : TypeId} {v : Value} (h : Bx W B t v) (hB : n₀ ≤ B) (ht : ¬ (t = 25 ∨ t = 46 ∨ t = 59 ∨ t = 63)) (u : Value) : Stp n₀ W (W.setCell ⟨B, 0, none⟩ u) := by
  refine ⟨KeepsOthers.setCell _ _ _, (Below.refl n₀ W).setCell (p := ⟨B, 0, none⟩) hB u, KT.grown (grownBy_setCell' W B u) (fun k cs t' hk hb => ?_)⟩
  cases hk
  rw [show W.heap[B]? = _ from h] at hb
  cases hb
  exact ht
theorem Bx.below {W W' : World} {B : Nat} {t : TypeId} {v : Value} (h : Bx W B t v) (hb : Below W.heap.size W W') : Bx W' B t v := (hb.block B h.lt).trans h
theorem Bx.row {n₀ : Nat} {ok : Nat → Prop} {W W' : World} {v u : Value} {L : List S39} {B : Nat} {t : TypeId} (h : Bx W B t u) (hR : Kd.R k39 39 W n₀ ok v L) (ht : 39 ≠ t) (hg : W.grownBy W' v.ownBlock) : Bx W' B t u :=
  (hg.block B h.lt (fun e => Kd.R_ne hR (show W.heap[B]? = _ from h) ht e)).trans h
theorem cell_two_new (w : World) (x y : Value) (t : TypeId) : ∀ j u, [x, y][j]? = some u → (w.alloc (.cells #[x, y] t)).cell? ((⟨w.heap.size, 0, none⟩ : Addr).add j) = some u := by
  intro j u hj
  match j, hj with
  | 0, hj => simp at hj; subst hj; simp [Addr.add]
  | 1, hj => simp at hj; subst hj; simp [Addr.add]

/-- What the loop keeps between two rounds. -/
def Kept0 (w : World) (b1 b2 b3 b4 b5 : Nat) (L : List S39) (k : Nat) (v : Value) (W : World) : Prop :=
  Kd.R k39 39 W w.heap.size (fun _ => True) v L ∧ Bx W b4 22 v ∧ Bx W b5 3 (.int .i64 k) ∧
  Bx W b1 22 (.slice none 0 0) ∧ Bx W b2 3 (.int .i64 0) ∧ Bx W b3 28 (.int .i64 0) ∧ Below w.heap.size w W

theorem Kept0.own {w : World} {b1 b2 b3 b4 b5 n₀ k : Nat} {L : List S39} {v : Value} (hn : w.heap.size ≤ n₀) (X Y : World) (row : Option Nat) (hs : Kept0 w b1 b2 b3 b4 b5 L k v X) (hg : X.grownBy Y row) (hr : ∀ r, row = some r → n₀ ≤ r ∧ ∃ o : Obj, X.heap[r]? = some o ∧ o.isCells = false) : Kept0 w b1 b2 b3 b4 b5 L k v Y := by
  obtain ⟨i0, i4, i5, i1, i2, i3, i6⟩ := hs
  exact ⟨R_own (β := Unit) n₀ _ rfl (fun _ => v) (fun _ => L) () X Y row i0 hg hr, grownBy_blk i4 hg (fun r e => (hr r e).2), grownBy_blk i5 hg (fun r e => (hr r e).2), grownBy_blk i1 hg (fun r e => (hr r e).2), grownBy_blk i2 hg (fun r e => (hr r e).2), grownBy_blk i3 hg (fun r e => (hr r e).2), ownFrom_below (β := Unit) (Nat.le_refl _) hn () X Y row i6 hg hr⟩
theorem Kept0.alloc {w : World} {b1 b2 b3 b4 b5 k : Nat} {L : List S39} {v : Value} {W : World} (h : Kept0 w b1 b2 b3 b4 b5 L k v W) (o : Obj) : Kept0 w b1 b2 b3 b4 b5 L k v (W.alloc o) :=
  Kept0.own (Nat.le_refl _) W _ none h (World.grownBy_alloc W o none) (fun _ e => by cases e)

set_option maxRecDepth 100000 in
set_option maxHeartbeats 4000000 in
theorem arity_Of.calls (A0_0 : Option Addr) (c0_0 : Nat) (l0_0 : List S39) (A0_1 : Option Addr) (c0_1 : Nat) (l0_1 : List S46) (r1 : List S39) (r2 : Int) (r3 : Int) (w : World) (hr0_0 : Kd.C k39 w A0_0 l0_0.length l0_0) (_hc0_0 : l0_0.length ≤ c0_0) (hr0_1 : Kd.C k46 w A0_1 l0_1.length l0_1) (_hc0_1 : l0_1.length ≤ c0_1) (h : arity_Of.f l0_0 l0_1 = some (r1, r2, r3)) :
    Calls Try.prog 10 #[.agg #[.slice A0_0 l0_0.length c0_0, .slice A0_1 l0_1.length c0_1]] w fun e w' => ∃ v0_ : Value, e = .returned (.tuple #[v0_, .int .i64 r2, .int .i64 r3]) ∧ Kd.R k39 39 w' w.heap.size (fun _ => True) v0_ r1 ∧ Below w.heap.size w w' := by
  obtain ⟨hN, hrun⟩ : (usesD l0_0 l0_1).length ≤ 5000000000000 ∧ runD [] 0 (usesD l0_0 l0_1) = (r1, r2, r3) := by
    unfold arity_Of.f at h
    split at h
    · exact ⟨by assumption, Option.some.inj h⟩
    · cases h
  have HR0 := Aside0.mk hr0_0
  have HR1 := Aside0.mk hr0_1
  have HN := Aside0.mk hN
  have HRUN := Aside0.mk hrun
  clear hr0_0 hr0_1 hN hrun h
  refine (callsIn_wide (n := 20)).1 ?_
  have hro : Fence.wide.round = none := rfl
  refine callsIn_of_wp_marks Try.func10 rfl trivial ?_ hro
  simp only [Try.ntmps10, List.size_toArray, List.length_cons, List.length_nil, Nat.reduceAdd, Nat.reduceSub, Array.replicate_succ, Array.replicate_zero, List.push_toArray, List.append_toArray, List.nil_append, List.cons_append]
  gi_wp2_with (refine ⟨trivial, ?_⟩; gi_at_call 17; refine (uses_in Fence.wide _ trivial hro _ _ _ _ _ _ _).mono ?_; rintro e w' ⟨rfl, rfl⟩)
  obtain ⟨b1, hb1⟩ : ∃ b, b = w.heap.size + 1 := ⟨_, rfl⟩
  rw [← hb1]
  obtain ⟨b2, hb2⟩ : ∃ b, b = b1 + 1 := ⟨_, rfl⟩
  rw [← hb2]
  obtain ⟨b3, hb3⟩ : ∃ b, b = b2 + 1 := ⟨_, rfl⟩
  rw [← hb3]
  obtain ⟨b4, hb4⟩ : ∃ b, b = b3 + 1 := ⟨_, rfl⟩
  rw [← hb4]
  obtain ⟨b5, hb5⟩ : ∃ b, b = b4 + 1 := ⟨_, rfl⟩
  rw [← hb5]
  obtain ⟨b6, hb6⟩ : ∃ b, b = b5 + 1 := ⟨_, rfl⟩
  rw [← hb6]
  have h1 := (((((Bx.new (w.alloc (.cells #[.slice A0_0 l0_0.length c0_0, .slice A0_1 l0_1.length c0_1] 25)) 22 (.slice none 0 0)).alloc (.cells #[.int .i64 0] 3)).alloc (.cells #[.int .i64 0] 28)).alloc (.cells #[.slice none 0 0] 22)).alloc (.cells #[.int .i64 0] 3)).alloc (.cells #[.slice A0_0 l0_0.length c0_0, .slice A0_1 l0_1.length c0_1] 25)
  have h2 := ((((Bx.new ((w.alloc (.cells #[.slice A0_0 l0_0.length c0_0, .slice A0_1 l0_1.length c0_1] 25)).alloc (.cells #[.slice none 0 0] 22)) 3 (.int .i64 0)).alloc (.cells #[.int .i64 0] 28)).alloc (.cells #[.slice none 0 0] 22)).alloc (.cells #[.int .i64 0] 3)).alloc (.cells #[.slice A0_0 l0_0.length c0_0, .slice A0_1 l0_1.length c0_1] 25)
  have h3 := (((Bx.new (((w.alloc (.cells #[.slice A0_0 l0_0.length c0_0, .slice A0_1 l0_1.length c0_1] 25)).alloc (.cells #[.slice none 0 0] 22)).alloc (.cells #[.int .i64 0] 3)) 28 (.int .i64 0)).alloc (.cells #[.slice none 0 0] 22)).alloc (.cells #[.int .i64 0] 3)).alloc (.cells #[.slice A0_0 l0_0.length c0_0, .slice A0_1 l0_1.length c0_1] 25)
  have h4 := ((Bx.new ((((w.alloc (.cells #[.slice A0_0 l0_0.length c0_0, .slice A0_1 l0_1.length c0_1] 25)).alloc (.cells #[.slice none 0 0] 22)).alloc (.cells #[.int .i64 0] 3)).alloc (.cells #[.int .i64 0] 28)) 22 (.slice none 0 0)).alloc (.cells #[.int .i64 0] 3)).alloc (.cells #[.slice A0_0 l0_0.length c0_0, .slice A0_1 l0_1.length c0_1] 25)
  have h5 := (Bx.new (((((w.alloc (.cells #[.slice A0_0 l0_0.length c0_0, .slice A0_1 l0_1.length c0_1] 25)).alloc (.cells #[.slice none 0 0] 22)).alloc (.cells #[.int .i64 0] 3)).alloc (.cells #[.int .i64 0] 28)).alloc (.cells #[.slice none 0 0] 22)) 3 (.int .i64 0)).alloc (.cells #[.slice A0_0 l0_0.length c0_0, .slice A0_1 l0_1.length c0_1] 25)
  have h6 := blk_new ((((((w.alloc (.cells #[.slice A0_0 l0_0.length c0_0, .slice A0_1 l0_1.length c0_1] 25)).alloc (.cells #[.slice none 0 0] 22)).alloc (.cells #[.int .i64 0] 3)).alloc (.cells #[.int .i64 0] 28)).alloc (.cells #[.slice none 0 0] 22)).alloc (.cells #[.int .i64 0] 3)) (.cells #[.slice A0_0 l0_0.length c0_0, .slice A0_1 l0_1.length c0_1] 25)
  have hbw := below_alloc (below_alloc (below_alloc (below_alloc (below_alloc (below_alloc (below_alloc (Below.refl w.heap.size w) (.cells #[.slice A0_0 l0_0.length c0_0, .slice A0_1 l0_1.length c0_1] 25)) (.cells #[.slice none 0 0] 22)) (.cells #[.int .i64 0] 3)) (.cells #[.int .i64 0] 28)) (.cells #[.slice none 0 0] 22)) (.cells #[.int .i64 0] 3)) (.cells #[.slice A0_0 l0_0.length c0_0, .slice A0_1 l0_1.length c0_1] 25)
  simp only [World.size_alloc] at h1 h2 h3 h4 h5 h6
  rw [← hb1] at h1 h2 h3 h4 h5 h6
  rw [← hb2] at h2 h3 h4 h5 h6
  rw [← hb3] at h3 h4 h5 h6
  rw [← hb4] at h4 h5 h6
  rw [← hb5] at h5 h6
  rw [← hb6] at h6
  obtain ⟨Wn, hWn⟩ : ∃ Wn, (((((((w.alloc (.cells #[.slice A0_0 l0_0.length c0_0, .slice A0_1 l0_1.length c0_1] 25)).alloc (.cells #[.slice none 0 0] 22)).alloc (.cells #[.int .i64 0] 3)).alloc (.cells #[.int .i64 0] 28)).alloc (.cells #[.slice none 0 0] 22)).alloc (.cells #[.int .i64 0] 3)).alloc (.cells #[.slice A0_0 l0_0.length c0_0, .slice A0_1 l0_1.length c0_1] 25)) = Wn := ⟨_, rfl⟩
  rw [hWn] at h1 h2 h3 h4 h5 h6 hbw ⊢
  clear hWn
  have hn0 : w.heap.size ≤ Wn.heap.size := hbw.size
  have hn6 : b6 < Wn.heap.size := (Array.getElem?_eq_some_iff.1 h6).1
  have HBS := Aside0.mk (show (w.heap.size ≤ b1 ∧ w.heap.size ≤ b2 ∧ w.heap.size ≤ b3 ∧ w.heap.size ≤ b4 ∧ w.heap.size ≤ b5) ∧ (b1 ≠ b2 ∧ b1 ≠ b3 ∧ b1 ≠ b4 ∧ b1 ≠ b5) ∧ (b2 ≠ b3 ∧ b2 ≠ b4 ∧ b2 ≠ b5) ∧ (b3 ≠ b4 ∧ b3 ≠ b5) ∧ b4 ≠ b5 from by omega)
  clear hb1 hb2 hb3 hb4 hb5 hb6
  refine range_through hro (by omega) (gf := 20) (lb := #[.pointer (some ⟨b6, 0, none⟩)]) rfl trivial (enters_of Try.func20 (by kernel_rfl) rfl)
    (encs := D39.enc) (Kp := Kp w.heap.size) (S := fun ys => ys = usesD l0_0 l0_1) (Sp := fun pre => pre <+: usesD l0_0 l0_1) (N := (usesD l0_0 l0_1).length)
    (fun l J Jx W3 hW3 hJ hJx hY h0 => uses1_in Fence.wide 19 (by omega) trivial trivial trivial rfl rfl l b6 W3.heap.size w l0_0 l0_1 A0_0 A0_1 c0_0 c0_1 J Jx HR0.out HR1.out hJ hJx hY W3 rfl ((hW3.block _ hn6).trans h6) (hbw.trans (hW3.mono hn0)) h0)
    Kp.trans (Kp.put hn0) (fun _ => rfl)
    (fun pre W => ∃ L v, keptD pre = some L ∧ Kept0 w b1 b2 b3 b4 b5 L pre.length v W)
    (fun c pre W => c = .ret ∧ ∃ pre0 d L, pre = pre0 ++ [d] ∧ keptD pre0 = some L ∧ stepD L d = none ∧ Bx W b1 22 (.slice none 0 0) ∧ Bx W b2 3 (.int .i64 (pre0.length : Nat)) ∧ Bx W b3 28 (.int .i64 5) ∧ Below w.heap.size w W)
    ?ownI ?ownIx
    ⟨[], .slice none 0 0, rfl, Kd.R_nil _ _ _ _ _, h4, h5, h1, h2, h3, hbw⟩
    (fun pre x a' W => (∃ L v, keptD pre = some L ∧ Kept0 w b1 b2 b3 b4 b5 L pre.length v W) ∧ ∃ Bd, W.heap[Bd]? = some (.cells #[.string x.f0, .int .i64 x.f1] 39 (0, 0)) ∧ a' = { tmps := #[.agg #[.slice A0_0 l0_0.length c0_0, .slice A0_1 l0_1.length c0_1], .pointer (some ⟨w.heap.size, 0, none⟩), .pointer (some ⟨b1, 0, none⟩), .pointer (some ⟨b2, 0, none⟩), .pointer (some ⟨b3, 0, none⟩), .pointer (some ⟨b4, 0, none⟩), .pointer (some ⟨b5, 0, none⟩), .pointer (some ⟨Bd, 0, none⟩), undef, undef, .agg #[.slice A0_0 l0_0.length c0_0, .slice A0_1 l0_1.length c0_1], .func (.func 20) #[] #[.pointer (some ⟨b6, 0, none⟩)], .agg #[.string x.f0, .int .i64 x.f1], undef, undef, undef, undef, undef, undef, undef, undef, undef, undef, undef, undef, undef, undef, undef, undef, undef, undef, undef, undef, undef, undef, undef], defers := [] })
    ?ownAx ?assign ?body ?done ?stop
  case ownI =>
    rintro pre X Y row ⟨L, v, hk, hs⟩ hg hr
    exact ⟨L, v, hk, Kept0.own hn0 X Y row hs hg hr⟩
  case ownIx =>
    rintro c pre X Y row ⟨hc, p0, d, L, e1, e2, e3, i1, i2, i3, i4⟩ hg hr
    exact ⟨hc, p0, d, L, e1, e2, e3, grownBy_blk i1 hg (fun r e => (hr r e).2), grownBy_blk i2 hg (fun r e => (hr r e).2), grownBy_blk i3 hg (fun r e => (hr r e).2), ownFrom_below (β := Unit) (Nat.le_refl _) hn0 () X Y row i4 hg hr⟩
  case ownAx =>
    rintro pre x a' - X Y row ⟨⟨L, v, hk, hs⟩, Bd, hd, ha⟩ hg hr
    exact ⟨⟨L, v, hk, Kept0.own hn0 X Y row hs hg hr⟩, Bd, grownBy_blk hd hg (fun r e => (hr r e).2), ha⟩
  case assign =>
    rintro l m pre x W3 hl ⟨L, v, hk, hs⟩ -
    have hnew := blk_new W3 (.cells #[.string x.f0, .int .i64 x.f1] 39 (0, 0))
    have HK := Aside0.mk hk
    have HS := Aside0.mk hs
    have HNW := Aside0.mk hnew
    clear hk hs hnew h1 h2 h3 h4 h5 h6
    dsimp only [D39.enc]
    gi_wp2
    have hst := Stp.alloc W3 (.cells #[.string x.f0, .int .i64 x.f1] 39 (0, 0)) HS.out.2.2.2.2.2.2.size
    exact ⟨hst.1.from _, hst.2, ⟨L, v, HK.out, HS.out.alloc _⟩, _, HNW.out, rfl⟩
  case body =>
    rintro l m pre x a' W3 hl ⟨⟨L, v, hk, hR, i4, i5, i1, i2, i3, i6⟩, Bd, hbd, rfl⟩ hlt
    obtain ⟨A, c, rfl, hcc, hC⟩ := Kd.R_reads hR
    obtain ⟨⟨o1, o2, o3, o4, o5⟩, ⟨n12, n13, n14, n15⟩, ⟨n23, n24, n25⟩, ⟨n34, n35⟩, n45⟩ := HBS.out
    have hn : w.heap.size ≤ W3.heap.size := i6.size
    have hmx : Try.prog.follows .mixedOrders = true := by kernel_rfl
    have hLn := kept_length pre [] L hk
    have hplen : pre.length < 5000000000000 := Nat.lt_of_lt_of_le hlt HN.out
    simp only [List.length_nil, Nat.zero_add] at hLn
    have e0 : W3.cell? ⟨Bd, 0, none⟩ = some (.string x.f0) := (blk_cell hbd 0).trans rfl
    have g4 := i4.cell
    have HK := Aside0.mk hk
    have HR := Aside0.mk hR
    have HC := Aside0.mk hC
    have HBD := Aside0.mk hbd
    have I1 := Aside0.mk i1
    have I2 := Aside0.mk i2
    have I3 := Aside0.mk i3
    have I4 := Aside0.mk i4
    have I5 := Aside0.mk i5
    have I6 := Aside0.mk i6
    clear hk hR hC hbd i1 i2 i3 i4 i5 i6 h1 h2 h3 h4 h5 h6 hlt
    cases hf : findD L x.f0 with
    | none =>
      have HS := Aside0.mk (show stepD L x = some (L ++ [x]) by simp [stepD, hf])
      have HF := Aside0.mk (show arity_Find.f L x.f0 = some (0, false) by simp [arity_Find.f, foundD, hf])
      clear hf
      obtain ⟨i0, hi, hz0, hz1, hz2⟩ := info_parts info39
      have hb63 : L.length + 1 ≤ maxLen := by unfold maxLen; omega
      have hb47 : (L.length + 1) * 24 ≤ 140737488355328 := by omega
      gi_wp2_with (first
        | (refine ⟨trivial, fun h => (by simp [Fence.wide] at h), ?_⟩; gi_at_call 12; refine (CallsIn.inRound l (callsIn_wide.2 (arity_Find.calls A c L x.f0 0 false W3 HC.out hcc HF.out))).mono ?_; rintro e W4 ⟨rfl, hb4⟩; clear g4 e0; have g4 := (I4.out.below hb4).cell; have z4 := (I4.out.below hb4).frozen; have e0 : W4.cell? ⟨Bd, 0, none⟩ = some (.string x.f0) := pw_cell_below hb4 ((blk_cell HBD.out 0).trans rfl); have e1 : W4.cell? ⟨Bd, 1, none⟩ = some (.int .i64 x.f1) := pw_cell_below hb4 ((blk_cell HBD.out 1).trans rfl); have HB4 := Aside0.mk hb4; clear hb4)
        | (gi_at_builtin; refine Aside0.out ?_))
      refine Aside0.mk ?_
      have hR4 := Kd.R_alloc (Kd.R_below HR.out HB4.out) (.cells #[.string x.f0, .int .i64 x.f1] 39)
      have J1 := (I1.out.below HB4.out).alloc (.cells #[.string x.f0, .int .i64 x.f1] 39)
      have J2 := (I2.out.below HB4.out).alloc (.cells #[.string x.f0, .int .i64 x.f1] 39)
      have J3 := (I3.out.below HB4.out).alloc (.cells #[.string x.f0, .int .i64 x.f1] 39)
      have J4 := (I4.out.below HB4.out).alloc (.cells #[.string x.f0, .int .i64 x.f1] 39)
      have J5 := (I5.out.below HB4.out).alloc (.cells #[.string x.f0, .int .i64 x.f1] 39)
      obtain ⟨h0, inner, hown, hr⟩ := hR4
      refine wpListIn_append_own_at _ rfl _ _ 22 rfl w.heap.size 39 i0 (.agg #[(.string ⟨#[]⟩), (.int .i64 0)]) 2 24 Try.underlying22 hi hz0 hz1 hz2 rfl (by decide) (.slice A L.length c) L.length inner rfl hown ⟨W4.heap.size, 0, none⟩ 1 1 [.string x.f0, .int .i64 x.f1] rfl rfl (cell_two_new _ _ _ _) (by simp [Value.oneCell']) hb63 hb47 (by have := HB4.out.size; simp; omega) ?_
      intro v1 w1 hown1 hg1 _ hat1
      obtain ⟨g', cap', rfl⟩ := ownsRow_succ hown1
      have hR1 := Kd.R_appended (d := k39) (okp := fun _ => False) h0 hr (k39_mkM _ _ _ x) (fun _ h => h.elim) (fun _ _ => trivial) hown1 hg1 (hat1.imp id (fun e => ⟨_, e, Nat.le_refl _⟩))
      have G1 := J1.row (Kd.R_alloc (Kd.R_below HR.out HB4.out) _) (by decide) hg1
      have G2 := J2.row (Kd.R_alloc (Kd.R_below HR.out HB4.out) _) (by decide) hg1
      have G3 := J3.row (Kd.R_alloc (Kd.R_below HR.out HB4.out) _) (by decide) hg1
      have G4 := J4.row (Kd.R_alloc (Kd.R_below HR.out HB4.out) _) (by decide) hg1
      have G5 := J5.row (Kd.R_alloc (Kd.R_below HR.out HB4.out) _) (by decide) hg1
      have hs1 := ((Stp.below HB4.out hn).trans (Stp.alloc W4 (.cells #[.string x.f0, .int .i64 x.f1] 39) (Nat.le_trans hn HB4.out.size))).trans (Stp.row (Kd.R_alloc (Kd.R_below HR.out HB4.out) _) hg1 (by have := HB4.out.size; simp; omega))
      have f4 := G4.cell
      have y4 := G4.frozen
      have f5 := (G5.other (Ne.symm n45) (.slice (some ⟨g', 0, none⟩) (L.length + 1) cap')).cell
      have y5 := (G5.other (Ne.symm n45) (.slice (some ⟨g', 0, none⟩) (L.length + 1) cap')).frozen
      have HR1 := Aside0.mk hR1
      have HS1 := Aside0.mk hs1
      have K1 := Aside0.mk G1
      have K2 := Aside0.mk G2
      have K3 := Aside0.mk G3
      have K4 := Aside0.mk G4
      have K5 := Aside0.mk G5
      clear hown hr h0 hown1 hg1 hat1 hR1 hs1 G1 G2 G3 G4 G5 J1 J2 J3 J4 J5 hi hz0 hz1 hz2 hb63 hb47
      gi_wp2
      have HL := Aside0.mk (show ((pre ++ [x]).length : Int) = (pre.length : Int) + 1 by simp)
      have hst := HS1.out.trans ((Stp.set K4.out o4 (by decide) (.slice (some ⟨g', 0, none⟩) (L.length + 1) cap')).trans (Stp.set (K5.out.other (Ne.symm n45) _) o5 (by decide) (.int .i64 ((pre.length : Int) + 1))))
      refine ⟨hst.1.from _, hst.2, L ++ [x], _, by rw [keptD_snoc, HK.out]; exact HS.out, Kd.R_set (Kd.R_set HR1.out K4.out (by decide) 0 _) (K5.out.other (Ne.symm n45) _) (by decide) 0 _, (K4.out.set _).other n45 _, ?_, (K1.out.other n14 _).other n15 _, (K2.out.other n24 _).other n25 _, (K3.out.other n34 _).other n35 _, I6.out.trans hst.2.1⟩
      rw [HL.out]
      exact (K5.out.other (Ne.symm n45) _).set _
    | some k =>
      have HF := Aside0.mk (show arity_Find.f L x.f0 = some (k, true) by simp [arity_Find.f, foundD, hf])
      by_cases hq : k = x.f1
      · have HS := Aside0.mk (show stepD L x = some L by simp [stepD, hf, hq])
        rw [hq] at HF
        clear hf hq
        gi_wp2_with (refine ⟨trivial, fun h => (by simp [Fence.wide] at h), ?_⟩; gi_at_call 12; refine (CallsIn.inRound l (callsIn_wide.2 (arity_Find.calls A c L x.f0 x.f1 true W3 HC.out hcc HF.out))).mono ?_; rintro e W4 ⟨rfl, hb4⟩; clear g4 e0; have e0 : W4.cell? ⟨Bd, 0, none⟩ = some (.string x.f0) := pw_cell_below hb4 ((blk_cell HBD.out 0).trans rfl); have e1 : W4.cell? ⟨Bd, 1, none⟩ = some (.int .i64 x.f1) := pw_cell_below hb4 ((blk_cell HBD.out 1).trans rfl); have HB4 := Aside0.mk hb4; have g5 := (I5.out.below hb4).cell; have z5 := (I5.out.below hb4).frozen; clear hb4)
        have HL := Aside0.mk (show ((pre ++ [x]).length : Int) = (pre.length : Int) + 1 by simp)
        have hst := (Stp.below HB4.out hn).trans (Stp.set (I5.out.below HB4.out) o5 (by decide) (.int .i64 ((pre.length : Int) + 1)))
        refine ⟨hst.1.from _, hst.2, L, _, by rw [keptD_snoc, HK.out]; exact HS.out, Kd.R_set (Kd.R_below HR.out HB4.out) (I5.out.below HB4.out) (by decide) 0 _, (I4.out.below HB4.out).other n45 _, ?_, (I1.out.below HB4.out).other n15 _, (I2.out.below HB4.out).other n25 _, (I3.out.below HB4.out).other n35 _, I6.out.trans hst.2.1⟩
        rw [HL.out]
        exact (I5.out.below HB4.out).set _
      · have HS := Aside0.mk (show stepD L x = none by simp [stepD, hf, hq])
        clear hf
        have hqd : decide (k = x.f1) = false := by simpa using hq
        gi_wp2_with (refine ⟨trivial, fun h => (by simp [Fence.wide] at h), ?_⟩; gi_at_call 12; refine (CallsIn.inRound l (callsIn_wide.2 (arity_Find.calls A c L x.f0 k true W3 HC.out hcc HF.out))).mono ?_; rintro e W4 ⟨rfl, hb4⟩; clear g4 e0; have e0 : W4.cell? ⟨Bd, 0, none⟩ = some (.string x.f0) := pw_cell_below hb4 ((blk_cell HBD.out 0).trans rfl); have e1 : W4.cell? ⟨Bd, 1, none⟩ = some (.int .i64 x.f1) := pw_cell_below hb4 ((blk_cell HBD.out 1).trans rfl); have HB4 := Aside0.mk hb4; have g5 := (I5.out.below hb4).cell; have z5 := (I5.out.below hb4).frozen; clear hb4)
        have V1 := I1.out.below HB4.out
        have V2 := I2.out.below HB4.out
        have V3 := I3.out.below HB4.out
        have V5 := I5.out.below HB4.out
        have U1 := V1.set (.slice none 0 0)
        have U2 := V2.other (Ne.symm n12) (.slice none 0 0)
        have U3 := V3.other (Ne.symm n13) (.slice none 0 0)
        have T1 := U1.other n12 (.int .i64 pre.length)
        have T2 := U2.set (.int .i64 pre.length)
        have T3 := U3.other (Ne.symm n23) (.int .i64 pre.length)
        have P1 := Aside0.mk (T1.other n13 (.int .i64 5))
        have P2 := Aside0.mk (T2.other n23 (.int .i64 5))
        have P3 := Aside0.mk (T3.set (.int .i64 5))
        have HST := Aside0.mk ((Stp.below HB4.out hn).trans (((Stp.set V1 o1 (by decide) (.slice none 0 0)).trans (Stp.set U2 o2 (by decide) (.int .i64 pre.length))).trans (Stp.set T3 o3 (by decide) (.int .i64 5))))
        clear g5 z5
        have v1 := V1.cell
        have w1 := V1.frozen
        have v2 := V2.cell
        have w2 := V2.frozen
        have v3 := V3.cell
        have w3 := V3.frozen
        have v5 := V5.cell
        clear V1 V2 V3 V5 U1 U2 U3 T1 T2 T3
        gi_region_with_o fail
        all_goals
          gi_wp2
          have hd := HST.out.trans (Stp.drew _ (Nat.le_trans hn HST.out.2.1.size))
          exact ⟨hd.1.from _, rfl, pre, x, L, rfl, HK.out, HS.out, P1.out.below (below_drew (Below.refl _ _)), P2.out.below (below_drew (Below.refl _ _)), P3.out.below (below_drew (Below.refl _ _)), I6.out.trans hd.2.1⟩
  case done =>
    rintro D ys W3 hD rfl ⟨L, v, hk, hR, i4, i5, i1, i2, i3, i6⟩ hK
    obtain ⟨A, c, rfl⟩ := Kd.R_slice hR
    obtain ⟨⟨o1, o2, o3, o4, o5⟩, ⟨n12, n13, n14, n15⟩, ⟨n23, n24, n25⟩, ⟨n34, n35⟩, n45⟩ := HBS.out
    have j1 := i1.set (.slice A L.length c)
    have j2 := i2.other (Ne.symm n12) (.slice A L.length c)
    have j3 := i3.other (Ne.symm n13) (.slice A L.length c)
    have k1 := j1.other n12 (.int .i64 0)
    have k2 := j2.set (.int .i64 0)
    have k3 := j3.other (Ne.symm n23) (.int .i64 0)
    have l1 := k1.other n13 (.int .i64 0)
    have l2 := k2.other n23 (.int .i64 0)
    have l3 := k3.set (.int .i64 0)
    have g4 := i4.cell
    have g1 := i1.cell
    have g2 := j2.cell
    have g3 := k3.cell
    have z1 := i1.frozen
    have z2 := j2.frozen
    have z3 := k3.frozen
    have hst := ((Stp.set i1 o1 (by decide) (.slice A L.length c)).trans (Stp.set j2 o2 (by decide) (.int .i64 0))).trans (Stp.set k3 o3 (by decide) (.int .i64 0))
    obtain ⟨Wf, hWf⟩ : ∃ Wf, ((W3.setCell ⟨b1, 0, none⟩ (.slice A L.length c)).setCell ⟨b2, 0, none⟩ (.int .i64 0)).setCell ⟨b3, 0, none⟩ (.int .i64 0) = Wf := ⟨_, rfl⟩
    have hKf : Wf.heap[D]? = some (.deferred (some [])) := by rw [← hWf]; exact hst.1.same _ _ hK rfl
    have hRf : Kd.R k39 39 Wf w.heap.size (fun _ => True) (.slice A L.length c) L := by
      rw [← hWf]
      exact Kd.R_set (Kd.R_set (Kd.R_set hR i1 (by decide) 0 _) j2 (by decide) 0 _) k3 (by decide) 0 _
    rw [hWf] at l1 l2 l3 hst
    have q1 := grownBy_blk l1 (grownBy_putObj' Wf D (.deferred none)) (fun r e => by cases e; exact ⟨_, hKf, rfl⟩)
    have q2 := grownBy_blk l2 (grownBy_putObj' Wf D (.deferred none)) (fun r e => by cases e; exact ⟨_, hKf, rfl⟩)
    have q3 := grownBy_blk l3 (grownBy_putObj' Wf D (.deferred none)) (fun r e => by cases e; exact ⟨_, hKf, rfl⟩)
    have hRg := R_own (β := Unit) Wn.heap.size w.heap.size rfl (fun _ => Value.slice A L.length c) (fun _ => L) () Wf _ _ hRf (grownBy_putObj' Wf D (.deferred none)) (fun r e => by cases e; exact ⟨hD, _, hKf, rfl⟩)
    have hbf := i6.trans (hst.2.1.trans (belowK_b (w := Wn) hn0 Wf D _ (.deferred none) hD hKf rfl rfl))
    have Q1 := Aside0.mk q1
    have Q2 := Aside0.mk q2
    have Q3 := Aside0.mk q3
    have HRG := Aside0.mk hRg
    have HBF := Aside0.mk hbf
    have HKF := Aside0.mk hKf
    have HWF := Aside0.mk hWf
    have HK := Aside0.mk hk
    clear hk hR i1 i2 i3 i4 i5 i6 hK h1 h2 h3 h4 h5 h6 j1 j2 j3 k1 k2 k3 l1 l2 l3 q1 q2 q3 hRg hbf hKf hWf hRf hst
    gi_wp2
    rw [HWF.out]
    refine ⟨by simp, .inl ⟨_, _, rfl, run_takeDeferred HKF.out, ?_⟩⟩
    have c1 := Bx.cell Q1.out
    have c2 := Bx.cell Q2.out
    have c3 := Bx.cell Q3.out
    obtain ⟨Wz, hWz⟩ : ∃ Wz, Wf.putObj D (.deferred none) = Wz := ⟨_, rfl⟩
    rw [hWz] at c1 c2 c3 ⊢
    have hlt : L = r1 ∧ (0 : Int) = r2 ∧ (0 : Int) = r3 := by
      have := HRUN.out
      rw [runD_kept _ _ _ _ HK.out] at this
      simpa using this
    obtain ⟨rfl, rfl, rfl⟩ := hlt
    refine ⟨.tuple #[.slice A L.length c, .int .i64 0, .int .i64 0], ?_, _, rfl, ?_, ?_⟩
    · simp [results, Try.f10, go_sem, c1, c2, c3]
    · rw [← hWz]; exact HRG.out
    · rw [← hWz]; exact HBF.out
  case stop =>
    rintro D c pre W3 hD hSp ⟨rfl, p0, d, L, rfl, e2, e3, i1, i2, i3, i4⟩ hK
    have q1 := grownBy_blk i1 (grownBy_putObj' W3 D (.deferred none)) (fun r e => by cases e; exact ⟨_, hK, rfl⟩)
    have q2 := grownBy_blk i2 (grownBy_putObj' W3 D (.deferred none)) (fun r e => by cases e; exact ⟨_, hK, rfl⟩)
    have q3 := grownBy_blk i3 (grownBy_putObj' W3 D (.deferred none)) (fun r e => by cases e; exact ⟨_, hK, rfl⟩)
    have hbf := i4.trans (belowK_b (w := Wn) hn0 W3 D _ (.deferred none) hD hK rfl rfl)
    have Q1 := Aside0.mk q1
    have Q2 := Aside0.mk q2
    have Q3 := Aside0.mk q3
    have HBF := Aside0.mk hbf
    have HKF := Aside0.mk hK
    have HSP := Aside0.mk hSp
    have E2 := Aside0.mk e2
    have E3 := Aside0.mk e3
    clear q1 q2 q3 hbf hK hSp e2 e3 i1 i2 i3 i4 h1 h2 h3 h4 h5 h6
    gi_wp2
    refine ⟨by simp, .inl ⟨_, _, rfl, run_takeDeferred HKF.out, ?_⟩⟩
    have c1 := Bx.cell Q1.out
    have c2 := Bx.cell Q2.out
    have c3 := Bx.cell Q3.out
    obtain ⟨Wz, hWz⟩ : ∃ Wz, W3.putObj D (.deferred none) = Wz := ⟨_, rfl⟩
    rw [hWz] at c1 c2 c3 ⊢
    have hlt : ([] : List S39) = r1 ∧ ((p0.length : Nat) : Int) = r2 ∧ (5 : Int) = r3 := by
      obtain ⟨rest, hrest⟩ := HSP.out
      have := HRUN.out
      rw [← hrest, List.append_assoc, List.singleton_append, runD_part p0 d rest [] 0 L E2.out E3.out] at this
      simpa using this
    obtain ⟨rfl, rfl, rfl⟩ := hlt
    refine ⟨.tuple #[.slice none 0 0, .int .i64 p0.length, .int .i64 5], ?_, _, rfl, Kd.R_nil _ _ _ _ _, ?_⟩
    · simp [results, Try.f10, go_sem, c1, c2, c3]
    · rw [← hWz]; exact HBF.out
end Go.Proofs.Ytpcadcmfdbhmhaa.P
