/- The parser's state; (*stream).peek, take, is, operates; (*parser).fail, ok, mark. The document's Plain. Printed by genrefp.py. The document's parser: at, mark, failed, name, term. Blocks of the document's parser; its name and term. (printed by gen_r6b.py) value.Int. -/
import Derived.LoopTactic
import Derived.WalkSmall
import Derived.WalkLawsBesides
import Derived.Outline
import Derived.Lib.Hide
import Derived.Test.YtminbdcabacfbaaGreatDoorKAtoms2
namespace Go.Proofs.YtminbdcabacfbaaGreatDoor.V
set_option linter.unusedVariables false
set_option linter.unusedSimpArgs false
open Go.RowKit

def tokA (t : Tok) (a : Nat) : Value := .agg #[.int .i64 (t.k : Int), .string (bs t.s), .int .i64 t.n, .bool t.q, .int .i64 (a : Int)]

/-- The parser's block, its tokens beside it. -/
structure PS (P : Nat) (L : List TP) (N nx : Nat) (pl bad : Int) (A : Option Addr) (c : Nat) (W : World) : Prop where
  b : W.heap[P]? = some (.cells #[.slice A L.length c, .int .i64 (nx : Int), .int .i64 (N : Int), .int .i64 pl, .int .i64 bad] 68 (0, 0))
  o : W.ownsRow 0 71 5 (.slice A L.length c) L.length (tokCells L)
  n : L.length ≤ 65536
  s : N ≤ 65536
  x : nx ≤ 1000000
section
variable {P : Nat} {L : List TP} {N nx : Nat} {pl bad : Int} {A : Option Addr} {c : Nat} {W W' : World}
theorem PS.c0 (h : PS P L N nx pl bad A c W) : W.cell? ⟨P, 0, none⟩ = some (.slice A L.length c) := cell_of_row W P 0 _ _ _ h.b
theorem PS.c1 (h : PS P L N nx pl bad A c W) : W.cell? ⟨P, 1, none⟩ = some (.int .i64 (nx : Int)) := cell_of_row W P 1 _ _ _ h.b
theorem PS.c2 (h : PS P L N nx pl bad A c W) : W.cell? ⟨P, 2, none⟩ = some (.int .i64 (N : Int)) := cell_of_row W P 2 _ _ _ h.b
theorem PS.c3 (h : PS P L N nx pl bad A c W) : W.cell? ⟨P, 3, none⟩ = some (.int .i64 pl) := cell_of_row W P 3 _ _ _ h.b
theorem PS.c4 (h : PS P L N nx pl bad A c W) : W.cell? ⟨P, 4, none⟩ = some (.int .i64 bad) := cell_of_row W P 4 _ _ _ h.b
theorem PS.fr (h : PS P L N nx pl bad A c W) (i : Nat) : W.frozen? ⟨P, i, none⟩ = false := frozen_of_row W P i _ _ h.b
theorem PS.lt (h : PS P L N nx pl bad A c W) : P < W.heap.size := (Array.getElem?_eq_some_iff.1 h.b).1
theorem PS.ne (h : PS P L N nx pl bad A c W) : some P ≠ Value.ownBlock (.slice A L.length c) := by
  intro he
  rcases h.o.2 with ⟨hv, _⟩ | ⟨g, cap, cur, hv, _, hk, _⟩
  · rw [hv] at he
    cases he
  · rw [hv] at he
    have : P = g := Option.some.inj he
    subst this
    have hb := h.b
    rw [hk] at hb
    simp at hb
theorem PS.grown {row : Option Nat} (h : PS P L N nx pl bad A c W) (hg : W.grownBy W' row) (h1 : some P ≠ row) (h2 : Value.ownBlock (.slice A L.length c) ≠ row) : PS P L N nx pl bad A c W' :=
  ⟨(hg.block P h.lt h1).trans h.b, h.o.kept hg (.inr h2), h.n, h.s, h.x⟩
theorem PS.below (h : PS P L N nx pl bad A c W) (hb : Below W.heap.size W W') : PS P L N nx pl bad A c W' :=
  ⟨(hb.block P h.lt).trans h.b, h.o.kept (grown_below hb none) (by cases A <;> simp [Value.ownBlock]), h.n, h.s, h.x⟩
theorem PS.setNext (h : PS P L N nx pl bad A c W) (m : Nat) (hm : m ≤ 1000000) : PS P L N m pl bad A c (W.setCell ⟨P, 1, none⟩ (.int .i64 (m : Int))) :=
  ⟨set_block h.b _, h.o.kept (grown_set (World.grownBy.refl W (some P)) 1 _) (.inr (Ne.symm h.ne)), h.n, h.s, hm⟩
theorem PS.setBad (h : PS P L N nx pl bad A c W) (a e : Int) : PS P L N nx a e A c ((W.setCell ⟨P, 3, none⟩ (.int .i64 a)).setCell ⟨P, 4, none⟩ (.int .i64 e)) :=
  ⟨set_block (set_block h.b _) _, h.o.kept (grown_set (grown_set (World.grownBy.refl W (some P)) 3 _) 4 _) (.inr (Ne.symm h.ne)), h.n, h.s, h.x⟩
end
theorem PS.old {P T : Nat} {L : List TP} {N nx : Nat} {pl bad : Int} {A : Option Addr} {c : Nat} {W : World} (h : PS P L N nx pl bad A c W) (hA : some T = Value.ownBlock (.slice A L.length c)) : T < W.heap.size := (h.o.lt T hA.symm).2
/-- Another block's turn, of another type. -/
theorem PS.tokSet {P T : Nat} {L : List TP} {N nx : Nat} {pl bad : Int} {A : Option Addr} {c : Nat} {W : World} (h : PS P L N nx pl bad A c W) (hne : P ≠ T) (hA : some T ≠ Value.ownBlock (.slice A L.length c)) (u0 u1 u2 u3 u4 : Value) : PS P L N nx pl bad A c (V.tokSet T u0 u1 u2 u3 u4 W) :=
  h.grown (row := some T) (grown_set (grown_set (grown_set (grown_set (grown_set (World.grownBy.refl W (some T)) _ _) _ _) _ _) _ _) _ _) (by simpa using hne) (Ne.symm hA)
theorem tokCells_at (L : List TP) : ∀ (m j : Nat) (p : TP), L[m]? = some p → j < 5 → (tokCells L)[m * 5 + j]? = (tokC p)[j]? := by
  induction L with
  | nil => intro m j p h; simp at h
  | cons x l ih =>
    intro m j p h hj
    unfold tokCells
    rw [List.flatMap_cons]
    match m with
    | 0 =>
      simp at h
      subst h
      rw [Nat.zero_mul, Nat.zero_add, List.getElem?_append_left (by simp [tokC]; omega)]
    | m + 1 =>
      rw [List.getElem?_append_right (by simp [tokC]; omega)]
      have := ih m j p (by simpa using h) hj
      unfold tokCells at this
      rw [← this]
      congr 1
      simp [tokC]
      omega
theorem pk_in {N : Nat} {L : List TP} {nx i : Nat} {t : Tok} {a : Nat} (hp : pk N (L.drop nx) i = (t, a)) (h : nx + i < L.length) : L[nx + i]? = some (t, a) := by
  unfold pk at hp
  rw [List.getElem?_drop, List.getElem?_eq_getElem h] at hp
  rw [List.getElem?_eq_getElem h]
  simpa using hp
theorem pk_out {N : Nat} {L : List TP} {nx i : Nat} (h : L.length ≤ nx + i) : pk N (L.drop nx) i = eofT N := by
  unfold pk
  rw [List.getElem?_drop, List.getElem?_eq_none h]
  rfl
theorem PS.row {P : Nat} {L : List TP} {N nx : Nat} {pl bad : Int} {A : Option Addr} {c : Nat} {W : World} (h : PS P L N nx pl bad A c W) {m : Nat} {t : Tok} {a : Nat} (hm : L[m]? = some (t, a)) :
    ∃ g, A = some ⟨g, 0, none⟩ ∧ W.cell? ⟨g, m * 5, none⟩ = some (.int .i64 (t.k : Int)) ∧ W.cell? ⟨g, m * 5 + 1, none⟩ = some (.string (bs t.s)) ∧ W.cell? ⟨g, m * 5 + 2, none⟩ = some (.int .i64 t.n) ∧ W.cell? ⟨g, m * 5 + 3, none⟩ = some (.bool t.q) ∧ W.cell? ⟨g, m * 5 + 4, none⟩ = some (.int .i64 (a : Int)) := by
  have ho := h.o
  have hlt : m < L.length := (List.getElem?_eq_some_iff.1 hm).1
  rcases ho.2 with ⟨hv, h0⟩ | ⟨g, cap, cur, hv, _, hk, _, _, _, hcur⟩
  · omega
  · have hA : A = some ⟨g, 0, none⟩ := by injection hv
    refine ⟨g, hA, ?_⟩
    have key : ∀ j u, j < 5 → (tokC (t, a))[j]? = some u → W.cell? ⟨g, m * 5 + j, none⟩ = some u := by
      intro j u hj hu
      rw [cell_of_row W g (m * 5 + j) cur _ _ hk]
      have h2 : cur[m * 5 + j]? = (tokCells L)[m * 5 + j]? := by
        rw [← hcur, List.getElem?_take_of_lt (by omega)]
        simp
      rw [h2, tokCells_at L m j _ hm hj]
      exact hu
    exact ⟨key 0 _ (by omega) rfl, key 1 _ (by omega) rfl, key 2 _ (by omega) rfl, key 3 _ (by omega) rfl, key 4 _ (by omega) rfl⟩

set_option maxRecDepth 100000 in
theorem peek_calls {P : Nat} {L : List TP} {N nx : Nat} {pl bad : Int} {A : Option Addr} {c : Nat} (i : Nat) (t : Tok) (a : Nat) (w : World) (h : PS P L N nx pl bad A c w) (hi : i ≤ 1) (hp : pk N (L.drop nx) i = (t, a)) :
    Calls Tryz.prog 36 #[.pointer (some ⟨P, 0, none⟩), .int .i64 (i : Int)] w fun e w' => e = .returned (tokA t a) ∧ Below w.heap.size w w' := by
  have hg0 := World.grownBy_alloc w (.cells #[.int .i64 0, .string ⟨#[]⟩, .int .i64 0, .bool false, .int .i64 0] 71) none
  have hx := h.x
  have hn := h.n
  have h2 := h.below (below_of_grown hg0)
  have c0 := h2.c0
  have c1 := h2.c1
  have c2 := h2.c2
  have HB := Lib.hid (below_of_grown hg0)
  by_cases hlt : nx + i < L.length
  · have hd : decide ((L.length : Int) ≤ (nx : Int) + (i : Int)) = false := decide_eq_false (by omega)
    obtain ⟨g, rfl, r0, r1, r2, r3, r4⟩ := h2.row (pk_in hp hlt)
    clear h h2 hp hg0
    go_enter Tryz.func36, Tryz.ntmps36
    go_wp2_with fail
    go_region
    go_wp2_with fail
    go_region
    go_wp2_with fail
    refine bodyPost_ret (v := tokA t a) (by simp [results, Tryz.results36, go_sem, tokA]) rfl ⟨rfl, ?_⟩
    exact ((Below.refl w.heap.size w).alloc (Nat.le_refl _) _).drew.drew
  · have hd : decide ((L.length : Int) ≤ (nx : Int) + (i : Int)) = true := decide_eq_true (by omega)
    have HP := Lib.hid (show (t, a) = eofT N by rw [← hp, pk_out (by omega)])
    clear h h2 hp hg0
    go_enter Tryz.func36, Tryz.ntmps36
    go_wp2_with fail
    go_region
    go_wp2_with fail
    refine bodyPost_ret (v := tokA (eofT N).1 (eofT N).2) (by simp [results, Tryz.results36, go_sem, tokA, eofT, bs]) rfl ⟨?_, ?_⟩
    · rw [← HP.out]
    exact ((Below.refl w.heap.size w).alloc (Nat.le_refl _) _).drew
theorem peek0_calls {P : Nat} {L : List TP} {N nx : Nat} {pl bad : Int} {A : Option Addr} {c : Nat} (t : Tok) (a : Nat) (w : World) (h : PS P L N nx pl bad A c w) (hp : pk N (L.drop nx) 0 = (t, a)) :
    Calls Tryz.prog 36 #[.pointer (some ⟨P, 0, none⟩), .int .i64 0] w fun e w' => e = .returned (.agg #[.int .i64 (t.k : Int), .string (bs t.s), .int .i64 t.n, .bool t.q, .int .i64 (a : Int)]) ∧ Below w.heap.size w w' := peek_calls 0 t a w h (by omega) hp
theorem peek1_calls {P : Nat} {L : List TP} {N nx : Nat} {pl bad : Int} {A : Option Addr} {c : Nat} (t : Tok) (a : Nat) (w : World) (h : PS P L N nx pl bad A c w) (hp : pk N (L.drop nx) 1 = (t, a)) :
    Calls Tryz.prog 36 #[.pointer (some ⟨P, 0, none⟩), .int .i64 1] w fun e w' => e = .returned (.agg #[.int .i64 (t.k : Int), .string (bs t.s), .int .i64 t.n, .bool t.q, .int .i64 (a : Int)]) ∧ Below w.heap.size w w' := peek_calls 1 t a w h (by omega) hp

theorem PS.takeW {P : Nat} {L : List TP} {N nx : Nat} {pl bad : Int} {A : Option Addr} {c : Nat} {w W : World} (h : PS P L N nx pl bad A c w) (hb : Below w.heap.size w W) (hx : nx + 1 ≤ 1000000) : PS P L N (nx + 1) pl bad A c (W.setCell ⟨P, 1, none⟩ (.int .i64 ((nx : Int) + 1))) := (h.below hb).setNext (nx + 1) hx

set_option maxRecDepth 100000 in
theorem take_calls {P : Nat} {L : List TP} {N nx : Nat} {pl bad : Int} {A : Option Addr} {c : Nat} (t : Tok) (a : Nat) (w : World) (h : PS P L N nx pl bad A c w) (hx : nx + 1 ≤ 1000000) (hp : pk N (L.drop nx) 0 = (t, a)) :
    Calls Tryz.prog 61 #[.pointer (some ⟨P, 0, none⟩)] w fun e w' => e = .returned (tokA t a) ∧ PS P L N (nx + 1) pl bad A c w' ∧ w.grownBy w' (some P) := by
  have h1 := h.below ((Below.refl w.heap.size w).alloc (Nat.le_refl _) (.cells #[.int .i64 0, .string ⟨#[]⟩, .int .i64 0, .bool false, .int .i64 0] 71))
  have hK := IsTok.new (v0 := .int .i64 0) (v1 := .string ⟨#[]⟩) (v2 := .int .i64 0) (v3 := .bool false) (v4 := .int .i64 0) w
  have H1 := Lib.hid h1
  have H0 := Lib.hid h
  have HK := Lib.hid hK
  have HLT := Lib.hid h.lt
  clear h h1 hK
  go_enter Tryz.func61, Tryz.ntmps61
  go_wp2_with (go_at_call 36; ((with_reducible refine (peek0_calls t a _ H1.out hp).mono ?_); rintro e w1 ⟨rfl, hb⟩; have h1 := H1.out.below hb; have h2 := h1.below ((Below.refl w1.heap.size w1).alloc (Nat.le_refl _) (.cells #[.int .i64 (t.k : Int), .string (bs t.s), .int .i64 t.n, .bool t.q, .int .i64 (a : Int)] 71)); have c1 := h2.c1; have f1 := h2.fr 1; have HB := Lib.hid hb; have hk := HK.out.grown (grown_below hb none) (by simp); have HK1 := Lib.hid hk; have HH1 := Lib.hid h1; have hS := grown_set (World.grownBy.refl (w1.alloc (.cells #[.int .i64 (t.k : Int), .string (bs t.s), .int .i64 t.n, .bool t.q, .int .i64 (a : Int)] 71)) (some P)) 1 (.int .i64 ((nx : Int) + 1)); have hn2 := (IsTok.new (v0 := .int .i64 (t.k : Int)) (v1 := .string (bs t.s)) (v2 := .int .i64 t.n) (v3 := .bool t.q) (v4 := .int .i64 (a : Int)) w1).grown hS (by have := h1.lt; simp; omega); have n0 := hn2.c0; have n1 := hn2.c1; have n2 := hn2.c2; have n3 := hn2.c3; have n4 := hn2.c4; have hk2 := (hk.grown (World.grownBy_alloc _ (.cells #[.int .i64 (t.k : Int), .string (bs t.s), .int .i64 t.n, .bool t.q, .int .i64 (a : Int)] 71) none) (by simp)).grown hS (by have := HLT.out; simp; omega); have HK2 := Lib.hid hk2; have k0 := hk2.c0; have k1 := hk2.c1; have k2 := hk2.c2; have k3 := hk2.c3; have k4 := hk2.c4; have l0 := hk2.fr 0; have l1 := hk2.fr 1; have l2 := hk2.fr 2; have l3 := hk2.fr 3; have l4 := hk2.fr 4; clear hb h1 hk h2 hk2 hn2 hS))
  have hset := HK2.out.set (.int .i64 (t.k : Int)) (.string (bs t.s)) (.int .i64 t.n) (.bool t.q) (.int .i64 (a : Int))
  have r0 := hset.c0; have r1 := hset.c1; have r2 := hset.c2; have r3 := hset.c3; have r4 := hset.c4
  have HP1 := HH1.out.below ((Below.refl w1.heap.size w1).alloc (Nat.le_refl _) (.cells #[.int .i64 (t.k : Int), .string (bs t.s), .int .i64 t.n, .bool t.q, .int .i64 (a : Int)] 71))
  refine bodyPost_ret (v := tokA t a) (by simp [results, Tryz.results61, go_sem, r0, r1, r2, r3, r4, tokA]) rfl ⟨rfl, (HP1.setNext (nx + 1) hx).tokSet (by have := HLT.out; omega) ?_ _ _ _ _ _, ?_⟩
  · exact fun he => Nat.lt_irrefl _ (H0.out.old he)
  · exact grown_tokSet (grown_set (grown_trans (World.grownBy_alloc _ _ _) (grown_trans (grown_below HB.out _) (World.grownBy_alloc _ _ _))) _ _) (Nat.le_refl _) _ _ _ _ _

set_option maxRecDepth 100000 in
theorem is_calls {P : Nat} {L : List TP} {N nx : Nat} {pl bad : Int} {A : Option Addr} {c : Nat} (mb : ByteArray) (v : Bool) (w : World) (h : PS P L N nx pl bad A c w) (hv : isM N (L.drop nx) 0 mb.data.toList = v) :
    Calls Tryz.prog 60 #[.pointer (some ⟨P, 0, none⟩), .string mb] w fun e w' => e = .returned (.bool v) ∧ Below w.heap.size w w' := by
  obtain ⟨⟨t, a⟩, hp⟩ : ∃ p, pk N (L.drop nx) 0 = p := ⟨_, rfl⟩
  unfold isM at hv
  rw [hp] at hv
  have H := Lib.hid h
  have HV := Lib.hid hv
  clear h hv
  cases hk : ((t.k : Int) == 4) with
  | false =>
    have HK := Lib.hid (show (t.k == 4) = false by cases h4 : (t.k == 4) with
      | false => rfl
      | true => simp at h4 hk; omega)
    go_enter Tryz.func60, Tryz.ntmps60
    go_wp2_with (go_at_call 36; ((with_reducible refine (peek0_calls t a _ H.out hp).mono ?_); rintro e w1 ⟨rfl, hb⟩; have HB := Lib.hid hb; clear hb))
    go_ret
    exact ⟨by rw [← HV.out, HK.out]; rfl, HB.out.alloc HB.out.size _⟩
  | true =>
    have HK := Lib.hid (show (t.k == 4) = true by simp at hk ⊢; omega)
    cases hs : ((bs t.s).toList == mb.toList) with
    | false =>
      have HS := Lib.hid (show (t.s == mb.data.toList) = false by rw [← ByteArray.toList_eq, ← bs_list t.s]; exact hs)
      go_enter Tryz.func60, Tryz.ntmps60
      go_wp2_with (go_at_call 36; ((with_reducible refine (peek0_calls t a _ H.out hp).mono ?_); rintro e w1 ⟨rfl, hb⟩; have HB := Lib.hid hb; clear hb))
      go_ret
      exact ⟨by rw [← HV.out, HK.out, HS.out]; rfl, HB.out.alloc HB.out.size _⟩
    | true =>
      have HS := Lib.hid (show (t.s == mb.data.toList) = true by rw [← ByteArray.toList_eq, ← bs_list t.s]; exact hs)
      go_enter Tryz.func60, Tryz.ntmps60
      go_wp2_with (go_at_call 36; ((with_reducible refine (peek0_calls t a _ H.out hp).mono ?_); rintro e w1 ⟨rfl, hb⟩; have HB := Lib.hid hb; clear hb))
      go_ret
      exact ⟨by rw [← HV.out, HK.out, HS.out]; rfl, HB.out.alloc HB.out.size _⟩
theorem pok_calls {P : Nat} {L : List TP} {N nx : Nat} {pl bad : Int} {A : Option Addr} {c : Nat} (v : Bool) (w : World) (h : PS P L N nx pl bad A c w) (hv : (bad == 0) = v) :
    Calls Tryz.prog 33 #[.pointer (some ⟨P, 0, none⟩)] w fun e w' => e = .returned (.bool v) ∧ w = w' := by
  have c4 := h.c4
  clear h
  cases v
  all_goals
    go_enter Tryz.func33, Tryz.ntmps33
    go_wp2
    go_ret
    exact ⟨rfl, rfl⟩
theorem fail_bad_calls {P : Nat} {L : List TP} {N nx : Nat} {pl bad : Int} {A : Option Addr} {c : Nat} (K : Int) (sb : ByteArray) (n : Int) (q : Bool) (a : Int) (e0 : Int) (w : World) (h : PS P L N nx pl bad A c w) (hv : (bad == 0) = false) :
    Calls Tryz.prog 35 #[.pointer (some ⟨P, 0, none⟩), .agg #[.int .i64 K, .string sb, .int .i64 n, .bool q, .int .i64 a], .int .i64 e0] w fun e w' => e = .returned (.tuple #[]) ∧ Below w.heap.size w w' := by
  have h2 := h.below ((Below.refl w.heap.size w).alloc (Nat.le_refl _) (.cells #[.int .i64 K, .string sb, .int .i64 n, .bool q, .int .i64 a] 71))
  have c4 := h2.c4
  clear h h2
  go_enter Tryz.func35, Tryz.ntmps35
  go_wp2_with fail
  go_end0
  exact ⟨rfl, (Below.refl w.heap.size w).alloc (Nat.le_refl _) _⟩
theorem fail_ok_calls {P : Nat} {L : List TP} {N nx : Nat} {pl : Int} {A : Option Addr} {c : Nat} (K : Int) (sb : ByteArray) (n : Int) (q : Bool) (a : Int) (e0 : Int) (w : World) (h : PS P L N nx pl 0 A c w) :
    Calls Tryz.prog 35 #[.pointer (some ⟨P, 0, none⟩), .agg #[.int .i64 K, .string sb, .int .i64 n, .bool q, .int .i64 a], .int .i64 e0] w fun e w' => e = .returned (.tuple #[]) ∧ PS P L N nx a e0 A c w' ∧ w.grownBy w' (some P) := by
  have h2 := h.below ((Below.refl w.heap.size w).alloc (Nat.le_refl _) (.cells #[.int .i64 K, .string sb, .int .i64 n, .bool q, .int .i64 a] 71))
  have c4 := h2.c4
  have c3 := h2.c3
  have f3 := h2.fr 3
  have f4 := h2.fr 4
  have H2 := Lib.hid h2
  clear h h2
  go_enter Tryz.func35, Tryz.ntmps35
  go_wp2_with fail
  go_end0
  exact ⟨rfl, H2.out.setBad _ _, grown_set (grown_set (World.grownBy_alloc _ _ _) _ _) _ _⟩
end Go.Proofs.YtminbdcabacfbaaGreatDoor.V

namespace Go.Proofs.YtminbdcabacfbaaGreatDoor.V
set_option linter.unusedVariables false
set_option linter.unusedSimpArgs false
open Go.RowKit

theorem plain_first_no {s : ByteArray} (hp : 0 < s.size) (h : smallI ((s[0]'hp).toNat : Int) = false) : plainL s.data.toList = false := by
  have e : s.data.toList[0]'(by simpa using hp) = s[0] := by rw [ByteArray.getElem_eq_getElem_data]; simp
  cases hl : s.data.toList with
  | nil => rfl
  | cons c r =>
    have : c = s[0] := by rw [← e]; simp [hl]
    rw [← this] at h
    simp only [plainL, h, Bool.and_false, Bool.false_and]
theorem head_eq {s : ByteArray} (hp : 0 < s.size) : s.data.toList.headD 0 = s[0] := by
  have e : s.data.toList[0]'(by simpa using hp) = s[0] := by rw [ByteArray.getElem_eq_getElem_data]; simp
  cases hl : s.data.toList with
  | nil =>
    have h2 : s.data.toList.length = s.size := by simp
    rw [hl, List.length_nil] at h2
    omega
  | cons c r =>
    rw [← e]
    simp [hl]

set_option maxRecDepth 100000 in
set_option maxHeartbeats 8000000 in
theorem refPlain_calls (s : ByteArray) (w : World) (hs : s.size ≤ 1048576) : Calls Tryz.prog 49 #[.string s] w fun e w' => e = .returned (.bool (plainL s.data.toList)) ∧ Below w.heap.size w w' := by
  have hmx : s.size ≤ 9223372036854775807 := by omega
  by_cases h0 : s.size = 0
  · have h0d : ((s.size : Int) == 0) = true := by rw [h0]; rfl
    have HP := Lib.hid (show plainL s.data.toList = false by
      have : s.data.toList = [] := by rw [← List.length_eq_zero_iff]; simpa using h0
      rw [this]; rfl)
    clear h0
    go_enter Tryz.func49, Tryz.ntmps49
    go_wp2_with fail
    go_ret
    exact ⟨by rw [HP.out]; rfl, Below.refl _ _⟩
  · have h0d : ((s.size : Int) == 0) = false := by rw [beq_eq_false_iff_ne]; omega
    by_cases h1 : s.toList = [110, 111, 116]
    · have h1d : (s.toList == [110, 111, 116]) = true := by rw [h1]; rfl
      have HP := Lib.hid (show plainL s.data.toList = false by
        rw [← ByteArray.toList_eq, h1]; rfl)
      clear h0 h1
      go_enter Tryz.func49, Tryz.ntmps49
      go_wp2_with fail
      go_ret
      exact ⟨by rw [HP.out]; rfl, Below.refl _ _⟩
    · have h1d : (s.toList == [110, 111, 116]) = false := by simpa using h1
      have HN := Lib.hid (show (s.data.toList == [110, 111, 116]) = false by rw [← ByteArray.toList_eq]; exact h1d)
      have hp : 0 < s.size := by omega
      clear h0 h1
      go_enter Tryz.func49, Tryz.ntmps49
      go_wp2_with fail
      clear h0d h1d
      go_loopw [3] (fun i wr => ∃ k : Nat, k ≤ s.size ∧ i = .int .i64 k ∧ (0 < k → smallI ((s[0]'hp).toNat : Int) = true) ∧ Upto s k ∧ wr = w) (fun i _ => s.size - (intOf i).toNat)
      case atStart => exact ⟨0, by omega, rfl, fun h => absurd h (by omega), rfl, rfl⟩
      case round =>
        obtain ⟨k, hk, rfl, hf, hu, rfl⟩ := hrel
        have HF := Lib.hid hf
        have HU := Lib.hid hu
        clear hf hu
        by_cases hlt : k < s.size
        · have hd : decide ((k : Int) < (s.size : Int)) = true := decide_eq_true (by omega)
          obtain ⟨c, hc⟩ : ∃ c : Int, ((s[k]'hlt).toNat : Int) = c := ⟨_, rfl⟩
          have HC := Lib.hid hc
          have hc0 : 0 ≤ c := by omega
          have hcb : 48 > c ∨ (48 ≤ c ∧ c ≤ 57) ∨ (58 ≤ c ∧ c ≤ 64) ∨ (65 ≤ c ∧ c ≤ 90) ∨ (91 ≤ c ∧ c ≤ 94) ∨ c = 95 ∨ c = 96 ∨ (97 ≤ c ∧ c ≤ 122) ∨ 122 < c := by omega
          by_cases hk0 : k = 0
          · have hk0d : (((k : Nat) : Int) == 0) = true := by rw [hk0]; rfl
            rcases hcb with hcb | hcb | hcb | hcb | hcb | hcb | hcb | hcb | hcb
            · have g97 : decide ((97 : Int) ≤ c) = false := decide_eq_false (by omega)
              have g122 : decide (c ≤ 122) = true := decide_eq_true (by omega)
              have g65 : decide ((65 : Int) ≤ c) = false := decide_eq_false (by omega)
              have g90 : decide (c ≤ 90) = true := decide_eq_true (by omega)
              have g48 : decide ((48 : Int) ≤ c) = false := decide_eq_false (by omega)
              have g57 : decide (c ≤ 57) = true := decide_eq_true (by omega)
              have g95 : (c == 95) = false := by rw [beq_eq_false_iff_ne]; omega
              have HR := Lib.hid (show plainL s.data.toList = false from plain_first_no hp (by subst hk0; rw [HC.out]; simp only [smallI, Bool.and_eq_false_iff, decide_eq_false_iff_not]; omega))
              clear hcb hk0
              rw [← hc] at g97 g122 g65 g90 g48 g57 g95
              clear hc hc0
              go_wp2_with fail
              go_ret
              exact ⟨by rw [HR.out]; rfl, Below.refl _ _⟩
            · have g97 : decide ((97 : Int) ≤ c) = false := decide_eq_false (by omega)
              have g122 : decide (c ≤ 122) = true := decide_eq_true (by omega)
              have g65 : decide ((65 : Int) ≤ c) = false := decide_eq_false (by omega)
              have g90 : decide (c ≤ 90) = true := decide_eq_true (by omega)
              have g48 : decide ((48 : Int) ≤ c) = true := decide_eq_true (by omega)
              have g57 : decide (c ≤ 57) = true := decide_eq_true (by omega)
              have g95 : (c == 95) = false := by rw [beq_eq_false_iff_ne]; omega
              have HR := Lib.hid (show plainL s.data.toList = false from plain_first_no hp (by subst hk0; rw [HC.out]; simp only [smallI, Bool.and_eq_false_iff, decide_eq_false_iff_not]; omega))
              clear hcb hk0
              rw [← hc] at g97 g122 g65 g90 g48 g57 g95
              clear hc hc0
              go_wp2_with fail
              go_ret
              exact ⟨by rw [HR.out]; rfl, Below.refl _ _⟩
            · have g97 : decide ((97 : Int) ≤ c) = false := decide_eq_false (by omega)
              have g122 : decide (c ≤ 122) = true := decide_eq_true (by omega)
              have g65 : decide ((65 : Int) ≤ c) = false := decide_eq_false (by omega)
              have g90 : decide (c ≤ 90) = true := decide_eq_true (by omega)
              have g48 : decide ((48 : Int) ≤ c) = true := decide_eq_true (by omega)
              have g57 : decide (c ≤ 57) = false := decide_eq_false (by omega)
              have g95 : (c == 95) = false := by rw [beq_eq_false_iff_ne]; omega
              have HR := Lib.hid (show plainL s.data.toList = false from plain_first_no hp (by subst hk0; rw [HC.out]; simp only [smallI, Bool.and_eq_false_iff, decide_eq_false_iff_not]; omega))
              clear hcb hk0
              rw [← hc] at g97 g122 g65 g90 g48 g57 g95
              clear hc hc0
              go_wp2_with fail
              go_ret
              exact ⟨by rw [HR.out]; rfl, Below.refl _ _⟩
            · have g97 : decide ((97 : Int) ≤ c) = false := decide_eq_false (by omega)
              have g122 : decide (c ≤ 122) = true := decide_eq_true (by omega)
              have g65 : decide ((65 : Int) ≤ c) = true := decide_eq_true (by omega)
              have g90 : decide (c ≤ 90) = true := decide_eq_true (by omega)
              have g48 : decide ((48 : Int) ≤ c) = true := decide_eq_true (by omega)
              have g57 : decide (c ≤ 57) = false := decide_eq_false (by omega)
              have g95 : (c == 95) = false := by rw [beq_eq_false_iff_ne]; omega
              have HR := Lib.hid (show plainL s.data.toList = false from plain_first_no hp (by subst hk0; rw [HC.out]; simp only [smallI, Bool.and_eq_false_iff, decide_eq_false_iff_not]; omega))
              clear hcb hk0
              rw [← hc] at g97 g122 g65 g90 g48 g57 g95
              clear hc hc0
              go_wp2_with fail
              go_ret
              exact ⟨by rw [HR.out]; rfl, Below.refl _ _⟩
            · have g97 : decide ((97 : Int) ≤ c) = false := decide_eq_false (by omega)
              have g122 : decide (c ≤ 122) = true := decide_eq_true (by omega)
              have g65 : decide ((65 : Int) ≤ c) = true := decide_eq_true (by omega)
              have g90 : decide (c ≤ 90) = false := decide_eq_false (by omega)
              have g48 : decide ((48 : Int) ≤ c) = true := decide_eq_true (by omega)
              have g57 : decide (c ≤ 57) = false := decide_eq_false (by omega)
              have g95 : (c == 95) = false := by rw [beq_eq_false_iff_ne]; omega
              have HR := Lib.hid (show plainL s.data.toList = false from plain_first_no hp (by subst hk0; rw [HC.out]; simp only [smallI, Bool.and_eq_false_iff, decide_eq_false_iff_not]; omega))
              clear hcb hk0
              rw [← hc] at g97 g122 g65 g90 g48 g57 g95
              clear hc hc0
              go_wp2_with fail
              go_ret
              exact ⟨by rw [HR.out]; rfl, Below.refl _ _⟩
            · have g97 : decide ((97 : Int) ≤ c) = false := decide_eq_false (by omega)
              have g122 : decide (c ≤ 122) = true := decide_eq_true (by omega)
              have g65 : decide ((65 : Int) ≤ c) = true := decide_eq_true (by omega)
              have g90 : decide (c ≤ 90) = false := decide_eq_false (by omega)
              have g48 : decide ((48 : Int) ≤ c) = true := decide_eq_true (by omega)
              have g57 : decide (c ≤ 57) = false := decide_eq_false (by omega)
              have g95 : (c == 95) = true := by simp only [beq_iff_eq]; omega
              have HR := Lib.hid (show plainL s.data.toList = false from plain_first_no hp (by subst hk0; rw [HC.out]; simp only [smallI, Bool.and_eq_false_iff, decide_eq_false_iff_not]; omega))
              clear hcb hk0
              rw [← hc] at g97 g122 g65 g90 g48 g57 g95
              clear hc hc0
              go_wp2_with fail
              go_ret
              exact ⟨by rw [HR.out]; rfl, Below.refl _ _⟩
            · have g97 : decide ((97 : Int) ≤ c) = false := decide_eq_false (by omega)
              have g122 : decide (c ≤ 122) = true := decide_eq_true (by omega)
              have g65 : decide ((65 : Int) ≤ c) = true := decide_eq_true (by omega)
              have g90 : decide (c ≤ 90) = false := decide_eq_false (by omega)
              have g48 : decide ((48 : Int) ≤ c) = true := decide_eq_true (by omega)
              have g57 : decide (c ≤ 57) = false := decide_eq_false (by omega)
              have g95 : (c == 95) = false := by rw [beq_eq_false_iff_ne]; omega
              have HR := Lib.hid (show plainL s.data.toList = false from plain_first_no hp (by subst hk0; rw [HC.out]; simp only [smallI, Bool.and_eq_false_iff, decide_eq_false_iff_not]; omega))
              clear hcb hk0
              rw [← hc] at g97 g122 g65 g90 g48 g57 g95
              clear hc hc0
              go_wp2_with fail
              go_ret
              exact ⟨by rw [HR.out]; rfl, Below.refl _ _⟩
            · have g97 : decide ((97 : Int) ≤ c) = true := decide_eq_true (by omega)
              have g122 : decide (c ≤ 122) = true := decide_eq_true (by omega)
              have g65 : decide ((65 : Int) ≤ c) = true := decide_eq_true (by omega)
              have g90 : decide (c ≤ 90) = false := decide_eq_false (by omega)
              have g48 : decide ((48 : Int) ≤ c) = true := decide_eq_true (by omega)
              have g57 : decide (c ≤ 57) = false := decide_eq_false (by omega)
              have g95 : (c == 95) = false := by rw [beq_eq_false_iff_ne]; omega
              have HW := Lib.hid (show Upto s (k + 1) from upto_succ hlt HU.out (by rw [HC.out]; simp only [wordI, smallI, Bool.or_eq_true, Bool.and_eq_true, decide_eq_true_eq]; omega))
              have HG := Lib.hid (show 0 < k + 1 → smallI ((s[0]'hp).toNat : Int) = true from fun _ => by subst hk0; rw [HC.out]; simp only [smallI, Bool.and_eq_true, decide_eq_true_eq]; omega)
              clear hcb hk0
              rw [← hc] at g97 g122 g65 g90 g48 g57 g95
              clear hc hc0
              go_wp2_with fail
              go_roundw
              case rel => exact ⟨k + 1, by omega, by simp, HG.out, HW.out, by first | rfl | trivial⟩
              case measure =>
                show s.size - ((k : Int) + 1).toNat < s.size - (k : Int).toNat
                omega
            · have g97 : decide ((97 : Int) ≤ c) = true := decide_eq_true (by omega)
              have g122 : decide (c ≤ 122) = false := decide_eq_false (by omega)
              have g65 : decide ((65 : Int) ≤ c) = true := decide_eq_true (by omega)
              have g90 : decide (c ≤ 90) = false := decide_eq_false (by omega)
              have g48 : decide ((48 : Int) ≤ c) = true := decide_eq_true (by omega)
              have g57 : decide (c ≤ 57) = false := decide_eq_false (by omega)
              have g95 : (c == 95) = false := by rw [beq_eq_false_iff_ne]; omega
              have HR := Lib.hid (show plainL s.data.toList = false from plain_first_no hp (by subst hk0; rw [HC.out]; simp only [smallI, Bool.and_eq_false_iff, decide_eq_false_iff_not]; omega))
              clear hcb hk0
              rw [← hc] at g97 g122 g65 g90 g48 g57 g95
              clear hc hc0
              go_wp2_with fail
              go_ret
              exact ⟨by rw [HR.out]; rfl, Below.refl _ _⟩
          · have hk0d : (((k : Nat) : Int) == 0) = false := by rw [beq_eq_false_iff_ne]; omega
            rcases hcb with hcb | hcb | hcb | hcb | hcb | hcb | hcb | hcb | hcb
            · have g97 : decide ((97 : Int) ≤ c) = false := decide_eq_false (by omega)
              have g122 : decide (c ≤ 122) = true := decide_eq_true (by omega)
              have g65 : decide ((65 : Int) ≤ c) = false := decide_eq_false (by omega)
              have g90 : decide (c ≤ 90) = true := decide_eq_true (by omega)
              have g48 : decide ((48 : Int) ≤ c) = false := decide_eq_false (by omega)
              have g57 : decide (c ≤ 57) = true := decide_eq_true (by omega)
              have g95 : (c == 95) = false := by rw [beq_eq_false_iff_ne]; omega
              have HR := Lib.hid (show plainL s.data.toList = false from plain_no hlt (by rw [head_eq hp]; exact HF.out (by omega)) (by rw [HC.out]; simp only [wordI, smallI, Bool.or_eq_false_iff, Bool.and_eq_false_iff, decide_eq_false_iff_not]; omega))
              clear hcb hk0
              rw [← hc] at g97 g122 g65 g90 g48 g57 g95
              clear hc hc0
              go_wp2_with fail
              go_ret
              exact ⟨by rw [HR.out]; rfl, Below.refl _ _⟩
            · have g97 : decide ((97 : Int) ≤ c) = false := decide_eq_false (by omega)
              have g122 : decide (c ≤ 122) = true := decide_eq_true (by omega)
              have g65 : decide ((65 : Int) ≤ c) = false := decide_eq_false (by omega)
              have g90 : decide (c ≤ 90) = true := decide_eq_true (by omega)
              have g48 : decide ((48 : Int) ≤ c) = true := decide_eq_true (by omega)
              have g57 : decide (c ≤ 57) = true := decide_eq_true (by omega)
              have g95 : (c == 95) = false := by rw [beq_eq_false_iff_ne]; omega
              have HW := Lib.hid (show Upto s (k + 1) from upto_succ hlt HU.out (by rw [HC.out]; simp only [wordI, smallI, Bool.or_eq_true, Bool.and_eq_true, decide_eq_true_eq]; omega))
              have HG := Lib.hid (show 0 < k + 1 → smallI ((s[0]'hp).toNat : Int) = true from fun _ => HF.out (by omega))
              clear hcb hk0
              rw [← hc] at g97 g122 g65 g90 g48 g57 g95
              clear hc hc0
              go_wp2_with fail
              go_roundw
              case rel => exact ⟨k + 1, by omega, by simp, HG.out, HW.out, by first | rfl | trivial⟩
              case measure =>
                show s.size - ((k : Int) + 1).toNat < s.size - (k : Int).toNat
                omega
            · have g97 : decide ((97 : Int) ≤ c) = false := decide_eq_false (by omega)
              have g122 : decide (c ≤ 122) = true := decide_eq_true (by omega)
              have g65 : decide ((65 : Int) ≤ c) = false := decide_eq_false (by omega)
              have g90 : decide (c ≤ 90) = true := decide_eq_true (by omega)
              have g48 : decide ((48 : Int) ≤ c) = true := decide_eq_true (by omega)
              have g57 : decide (c ≤ 57) = false := decide_eq_false (by omega)
              have g95 : (c == 95) = false := by rw [beq_eq_false_iff_ne]; omega
              have HR := Lib.hid (show plainL s.data.toList = false from plain_no hlt (by rw [head_eq hp]; exact HF.out (by omega)) (by rw [HC.out]; simp only [wordI, smallI, Bool.or_eq_false_iff, Bool.and_eq_false_iff, decide_eq_false_iff_not]; omega))
              clear hcb hk0
              rw [← hc] at g97 g122 g65 g90 g48 g57 g95
              clear hc hc0
              go_wp2_with fail
              go_ret
              exact ⟨by rw [HR.out]; rfl, Below.refl _ _⟩
            · have g97 : decide ((97 : Int) ≤ c) = false := decide_eq_false (by omega)
              have g122 : decide (c ≤ 122) = true := decide_eq_true (by omega)
              have g65 : decide ((65 : Int) ≤ c) = true := decide_eq_true (by omega)
              have g90 : decide (c ≤ 90) = true := decide_eq_true (by omega)
              have g48 : decide ((48 : Int) ≤ c) = true := decide_eq_true (by omega)
              have g57 : decide (c ≤ 57) = false := decide_eq_false (by omega)
              have g95 : (c == 95) = false := by rw [beq_eq_false_iff_ne]; omega
              have HW := Lib.hid (show Upto s (k + 1) from upto_succ hlt HU.out (by rw [HC.out]; simp only [wordI, smallI, Bool.or_eq_true, Bool.and_eq_true, decide_eq_true_eq]; omega))
              have HG := Lib.hid (show 0 < k + 1 → smallI ((s[0]'hp).toNat : Int) = true from fun _ => HF.out (by omega))
              clear hcb hk0
              rw [← hc] at g97 g122 g65 g90 g48 g57 g95
              clear hc hc0
              go_wp2_with fail
              go_roundw
              case rel => exact ⟨k + 1, by omega, by simp, HG.out, HW.out, by first | rfl | trivial⟩
              case measure =>
                show s.size - ((k : Int) + 1).toNat < s.size - (k : Int).toNat
                omega
            · have g97 : decide ((97 : Int) ≤ c) = false := decide_eq_false (by omega)
              have g122 : decide (c ≤ 122) = true := decide_eq_true (by omega)
              have g65 : decide ((65 : Int) ≤ c) = true := decide_eq_true (by omega)
              have g90 : decide (c ≤ 90) = false := decide_eq_false (by omega)
              have g48 : decide ((48 : Int) ≤ c) = true := decide_eq_true (by omega)
              have g57 : decide (c ≤ 57) = false := decide_eq_false (by omega)
              have g95 : (c == 95) = false := by rw [beq_eq_false_iff_ne]; omega
              have HR := Lib.hid (show plainL s.data.toList = false from plain_no hlt (by rw [head_eq hp]; exact HF.out (by omega)) (by rw [HC.out]; simp only [wordI, smallI, Bool.or_eq_false_iff, Bool.and_eq_false_iff, decide_eq_false_iff_not]; omega))
              clear hcb hk0
              rw [← hc] at g97 g122 g65 g90 g48 g57 g95
              clear hc hc0
              go_wp2_with fail
              go_ret
              exact ⟨by rw [HR.out]; rfl, Below.refl _ _⟩
            · have g97 : decide ((97 : Int) ≤ c) = false := decide_eq_false (by omega)
              have g122 : decide (c ≤ 122) = true := decide_eq_true (by omega)
              have g65 : decide ((65 : Int) ≤ c) = true := decide_eq_true (by omega)
              have g90 : decide (c ≤ 90) = false := decide_eq_false (by omega)
              have g48 : decide ((48 : Int) ≤ c) = true := decide_eq_true (by omega)
              have g57 : decide (c ≤ 57) = false := decide_eq_false (by omega)
              have g95 : (c == 95) = true := by simp only [beq_iff_eq]; omega
              have HW := Lib.hid (show Upto s (k + 1) from upto_succ hlt HU.out (by rw [HC.out]; simp only [wordI, smallI, Bool.or_eq_true, Bool.and_eq_true, decide_eq_true_eq]; omega))
              have HG := Lib.hid (show 0 < k + 1 → smallI ((s[0]'hp).toNat : Int) = true from fun _ => HF.out (by omega))
              clear hcb hk0
              rw [← hc] at g97 g122 g65 g90 g48 g57 g95
              clear hc hc0
              go_wp2_with fail
              go_roundw
              case rel => exact ⟨k + 1, by omega, by simp, HG.out, HW.out, by first | rfl | trivial⟩
              case measure =>
                show s.size - ((k : Int) + 1).toNat < s.size - (k : Int).toNat
                omega
            · have g97 : decide ((97 : Int) ≤ c) = false := decide_eq_false (by omega)
              have g122 : decide (c ≤ 122) = true := decide_eq_true (by omega)
              have g65 : decide ((65 : Int) ≤ c) = true := decide_eq_true (by omega)
              have g90 : decide (c ≤ 90) = false := decide_eq_false (by omega)
              have g48 : decide ((48 : Int) ≤ c) = true := decide_eq_true (by omega)
              have g57 : decide (c ≤ 57) = false := decide_eq_false (by omega)
              have g95 : (c == 95) = false := by rw [beq_eq_false_iff_ne]; omega
              have HR := Lib.hid (show plainL s.data.toList = false from plain_no hlt (by rw [head_eq hp]; exact HF.out (by omega)) (by rw [HC.out]; simp only [wordI, smallI, Bool.or_eq_false_iff, Bool.and_eq_false_iff, decide_eq_false_iff_not]; omega))
              clear hcb hk0
              rw [← hc] at g97 g122 g65 g90 g48 g57 g95
              clear hc hc0
              go_wp2_with fail
              go_ret
              exact ⟨by rw [HR.out]; rfl, Below.refl _ _⟩
            · have g97 : decide ((97 : Int) ≤ c) = true := decide_eq_true (by omega)
              have g122 : decide (c ≤ 122) = true := decide_eq_true (by omega)
              have g65 : decide ((65 : Int) ≤ c) = true := decide_eq_true (by omega)
              have g90 : decide (c ≤ 90) = false := decide_eq_false (by omega)
              have g48 : decide ((48 : Int) ≤ c) = true := decide_eq_true (by omega)
              have g57 : decide (c ≤ 57) = false := decide_eq_false (by omega)
              have g95 : (c == 95) = false := by rw [beq_eq_false_iff_ne]; omega
              have HW := Lib.hid (show Upto s (k + 1) from upto_succ hlt HU.out (by rw [HC.out]; simp only [wordI, smallI, Bool.or_eq_true, Bool.and_eq_true, decide_eq_true_eq]; omega))
              have HG := Lib.hid (show 0 < k + 1 → smallI ((s[0]'hp).toNat : Int) = true from fun _ => HF.out (by omega))
              clear hcb hk0
              rw [← hc] at g97 g122 g65 g90 g48 g57 g95
              clear hc hc0
              go_wp2_with fail
              go_roundw
              case rel => exact ⟨k + 1, by omega, by simp, HG.out, HW.out, by first | rfl | trivial⟩
              case measure =>
                show s.size - ((k : Int) + 1).toNat < s.size - (k : Int).toNat
                omega
            · have g97 : decide ((97 : Int) ≤ c) = true := decide_eq_true (by omega)
              have g122 : decide (c ≤ 122) = false := decide_eq_false (by omega)
              have g65 : decide ((65 : Int) ≤ c) = true := decide_eq_true (by omega)
              have g90 : decide (c ≤ 90) = false := decide_eq_false (by omega)
              have g48 : decide ((48 : Int) ≤ c) = true := decide_eq_true (by omega)
              have g57 : decide (c ≤ 57) = false := decide_eq_false (by omega)
              have g95 : (c == 95) = false := by rw [beq_eq_false_iff_ne]; omega
              have HR := Lib.hid (show plainL s.data.toList = false from plain_no hlt (by rw [head_eq hp]; exact HF.out (by omega)) (by rw [HC.out]; simp only [wordI, smallI, Bool.or_eq_false_iff, Bool.and_eq_false_iff, decide_eq_false_iff_not]; omega))
              clear hcb hk0
              rw [← hc] at g97 g122 g65 g90 g48 g57 g95
              clear hc hc0
              go_wp2_with fail
              go_ret
              exact ⟨by rw [HR.out]; rfl, Below.refl _ _⟩
        · have hd : decide ((k : Int) < (s.size : Int)) = false := decide_eq_false (by omega)
          obtain rfl : k = s.size := by omega
          have HR := Lib.hid (show plainL s.data.toList = true from plain_yes HN.out hp (by rw [head_eq hp]; exact HF.out hp) HU.out)
          go_wp2_with fail
          go_ret
          exact ⟨by rw [HR.out]; rfl, Below.refl _ _⟩
end Go.Proofs.YtminbdcabacfbaaGreatDoor.V

namespace Go.Proofs.YtminbdcabacfbaaGreatDoor.V
set_option linter.unusedVariables false
set_option linter.unusedSimpArgs false
open Go.RowKit

/-- The document's state. -/
def stV (i b a : Int) : Value := .agg #[.int .i64 i, .int .i64 b, .int .i64 a]
/-- Tokens where the document's parser finds them. -/
structure TkAt (W : World) (A : Option Addr) (n : Nat) (L : List TP) : Prop where
  hn : n = L.length
  ht : ToksAt W A (L.map gtOf)
theorem TkAt.below {W W' : World} {A : Option Addr} {n : Nat} {L : List TP} (h : TkAt W A n L) (hb : Below W.heap.size W W') : TkAt W' A n L := ⟨h.hn, h.ht.below hb⟩

set_option maxRecDepth 100000 in
set_option maxHeartbeats 4000000 in
theorem rat_calls (A : Option Addr) (n c : Nat) (L : List TP) (N i : Nat) (t : Tok) (a : Nat) (w : World) (h : TkAt w A n L) (hp : pk N (L.drop i) 0 = (t, a)) :
    Calls Tryz.prog 70 #[.slice A n c, .int .i64 (i : Int), .int .i64 (N : Int)] w fun e w' => e = .returned (.agg #[.int .i64 (t.k : Int), .string (bs t.s), .int .i64 t.n, .bool t.q, .int .i64 (a : Int)]) ∧ Below w.heap.size w w' := by
  have H := Lib.hid h
  by_cases hi : i < n
  · have hd : decide ((i : Int) < (n : Int)) = true := decide_eq_true (by omega)
    have hx : L[i]? = some (t, a) := by
      have := h.hn
      have h2 := List.getElem?_eq_getElem (show i < L.length by omega)
      unfold V.pk at hp
      rw [List.getElem?_drop, Nat.add_zero, h2] at hp
      rw [h2]
      exact congrArg some hp
    obtain ⟨ad, rfl, hh⟩ := h.ht i (gtOf (t, a)) (by rw [List.getElem?_map, hx]; rfl)
    have d0 := fun o => cell_below ((Below.refl w.heap.size w).alloc (Nat.le_refl _) o) hh.c0
    have d1 := fun o => cell_below ((Below.refl w.heap.size w).alloc (Nat.le_refl _) o) hh.c1
    have d2 := fun o => cell_below ((Below.refl w.heap.size w).alloc (Nat.le_refl _) o) hh.c2
    have d3 := fun o => cell_below ((Below.refl w.heap.size w).alloc (Nat.le_refl _) o) hh.c3
    have d4 := fun o => cell_below ((Below.refl w.heap.size w).alloc (Nat.le_refl _) o) hh.c4
    simp only [gtOf] at d0 d1 d2 d3 d4
    clear h hp hx hh
    go_enter Tryz.func70, Tryz.ntmps70
    go_wp2_with fail
    refine bodyPost_ret (v := .agg #[.int .i64 (t.k : Int), .string (bs t.s), .int .i64 t.n, .bool t.q, .int .i64 (a : Int)]) (by simp [results, Tryz.results70, go_sem]) rfl ⟨rfl, (Below.refl w.heap.size w).alloc (Nat.le_refl _) _⟩
  · have hd : decide ((i : Int) < (n : Int)) = false := decide_eq_false (by omega)
    have hq : (t, a) = eofT N := by
      have := h.hn
      rw [← hp]
      unfold V.pk
      rw [List.getElem?_drop, List.getElem?_eq_none (by omega)]
      rfl
    cases hq
    clear h hp
    go_enter Tryz.func70, Tryz.ntmps70
    go_wp2_with fail
    refine bodyPost_ret (v := .agg #[.int .i64 0, .string ⟨#[]⟩, .int .i64 0, .bool false, .int .i64 (N : Int)]) (by simp [results, Tryz.results70, go_sem]) rfl ⟨rfl, (Below.refl w.heap.size w).alloc (Nat.le_refl _) _⟩

set_option maxRecDepth 100000 in
theorem rmark_calls (k : Nat) (s : List UInt8) (n : Int) (q : Bool) (a : Int) (m : List UInt8) (v : Bool) (w : World) (hv : (k == 4 && s == m) = v) :
    Calls Tryz.prog 69 #[.agg #[.int .i64 (k : Int), .string (bs s), .int .i64 n, .bool q, .int .i64 a], .string (bs m)] w fun e w' => e = .returned (.bool v) ∧ Below w.heap.size w w' := by
  cases hk : ((k : Int) == 4) with
  | false =>
    have : v = false := by
      rw [← hv]
      have : (k == 4) = false := by simp at hk ⊢; omega
      rw [this]; rfl
    subst this
    clear hv
    go_enter Tryz.func69, Tryz.ntmps69
    go_wp2_with fail
    go_ret
    exact ⟨rfl, (Below.refl _ _).alloc (Nat.le_refl _) _⟩
  | true =>
    have hs : ((bs s).toList == (bs m).toList) = v := by
      rw [bs_list, bs_list, ← hv]
      have : (k == 4) = true := by simp at hk ⊢; omega
      rw [this]; rfl
    cases v with
    | true =>
      clear hv
      go_enter Tryz.func69, Tryz.ntmps69
      go_wp2_with fail
      go_ret
      exact ⟨rfl, (Below.refl _ _).alloc (Nat.le_refl _) _⟩
    | false =>
      clear hv
      go_enter Tryz.func69, Tryz.ntmps69
      go_wp2_with fail
      go_ret
      exact ⟨rfl, (Below.refl _ _).alloc (Nat.le_refl _) _⟩

set_option maxRecDepth 100000 in
theorem rfailed_calls (k : Int) (s : ByteArray) (n : Int) (q : Bool) (a b : Int) (w : World) :
    Calls Tryz.prog 71 #[.agg #[.int .i64 k, .string s, .int .i64 n, .bool q, .int .i64 a], .int .i64 b] w fun e w' => e = .returned (.agg #[.int .i64 0, .int .i64 b, .int .i64 a]) ∧ Below w.heap.size w w' := by
  go_enter Tryz.func71, Tryz.ntmps71
  go_wp2_with fail
  refine bodyPost_ret (v := .agg #[.int .i64 0, .int .i64 b, .int .i64 a]) (by simp [results, Tryz.results71, go_sem]) rfl ⟨rfl, ((Below.refl w.heap.size w).alloc (Nat.le_refl _) _).alloc (by simp) _⟩
end Go.Proofs.YtminbdcabacfbaaGreatDoor.V

namespace Go.Proofs.YtminbdcabacfbaaGreatDoor.V
set_option linter.unusedVariables false
set_option linter.unusedSimpArgs false
open Go.RowKit

def IsSt (T : Nat) (v0 v1 v2 : Value) (w : World) : Prop := w.heap[T]? = some (.cells #[v0, v1, v2] 76 (0, 0))
section
variable {T : Nat} {v0 v1 v2 : Value} {w : World}
theorem IsSt.c0 (h : IsSt T v0 v1 v2 w) : w.cell? ⟨T, 0, none⟩ = some v0 := cell_of_row w T 0 _ _ _ h
theorem IsSt.c1 (h : IsSt T v0 v1 v2 w) : w.cell? ⟨T, 1, none⟩ = some v1 := cell_of_row w T 1 _ _ _ h
theorem IsSt.c2 (h : IsSt T v0 v1 v2 w) : w.cell? ⟨T, 2, none⟩ = some v2 := cell_of_row w T 2 _ _ _ h
theorem IsSt.fr (h : IsSt T v0 v1 v2 w) (i : Nat) : w.frozen? ⟨T, i, none⟩ = false := frozen_of_row w T i _ _ h
theorem IsSt.lt (h : IsSt T v0 v1 v2 w) : T < w.heap.size := (Array.getElem?_eq_some_iff.1 h).1
theorem IsSt.below {w' : World} (h : IsSt T v0 v1 v2 w) (hb : Below w.heap.size w w') : IsSt T v0 v1 v2 w' := (hb.block T h.lt).trans h
theorem IsSt.alloc (h : IsSt T v0 v1 v2 w) (o : Obj) : IsSt T v0 v1 v2 (w.alloc o) := h.below ((Below.refl _ _).alloc (Nat.le_refl _) o)
theorem IsSt.grown {w' : World} {row : Option Nat} (h : IsSt T v0 v1 v2 w) (hg : w.grownBy w' row) (hne : some T ≠ row) : IsSt T v0 v1 v2 w' := (hg.block T h.lt hne).trans h
theorem IsSt.new (w : World) : IsSt w.heap.size v0 v1 v2 (w.alloc (.cells #[v0, v1, v2] 76)) := heap_alloc_new w _
theorem IsSt.far {T2 : Nat} (h : IsSt T v0 v1 v2 w) (hne : T ≠ T2) (i : Nat) (v : Value) : IsSt T v0 v1 v2 (w.setCell ⟨T2, i, none⟩ v) := (Below.heap_setCell _ _ _ _ hne).trans h
end
theorem IsSt.set0 {T : Nat} {v0 v1 v2 : Value} {w : World} (h : IsSt T v0 v1 v2 w) (u : Value) : IsSt T u v1 v2 (w.setCell ⟨T, 0, none⟩ u) := set_block h u
theorem IsSt.set1 {T : Nat} {v0 v1 v2 : Value} {w : World} (h : IsSt T v0 v1 v2 w) (u : Value) : IsSt T v0 u v2 (w.setCell ⟨T, 1, none⟩ u) := set_block h u
theorem IsSt.set2 {T : Nat} {v0 v1 v2 : Value} {w : World} (h : IsSt T v0 v1 v2 w) (u : Value) : IsSt T v0 v1 u (w.setCell ⟨T, 2, none⟩ u) := set_block h u
abbrev IsStSet (T : Nat) (u0 u1 u2 : Value) (w : World) : World := (((w.setCell ⟨T, 0, none⟩ u0).setCell ⟨T, 1, none⟩ u1).setCell ⟨T, 2, none⟩ u2)
theorem IsSt.set {T : Nat} {v0 v1 v2 : Value} {w : World} (h : IsSt T v0 v1 v2 w) (u0 u1 u2 : Value) : IsSt T u0 u1 u2 (IsStSet T u0 u1 u2 w) := (((h.set0 u0).set1 u1).set2 u2)
theorem below_IsSt {B T : Nat} {w w' : World} (h : Below B w w') (hT : B ≤ T) (u0 u1 u2 : Value) : Below B w (IsStSet T u0 u1 u2 w') := (((h.setCell (p := ⟨T, 0, none⟩) hT _).setCell (p := ⟨T, 1, none⟩) hT _).setCell (p := ⟨T, 2, none⟩) hT _)
def IsTm (T : Nat) (v0 v1 v2 v3 v4 : Value) (w : World) : Prop := w.heap[T]? = some (.cells #[v0, v1, v2, v3, v4] 45 (0, 0))
section
variable {T : Nat} {v0 v1 v2 v3 v4 : Value} {w : World}
theorem IsTm.c0 (h : IsTm T v0 v1 v2 v3 v4 w) : w.cell? ⟨T, 0, none⟩ = some v0 := cell_of_row w T 0 _ _ _ h
theorem IsTm.c1 (h : IsTm T v0 v1 v2 v3 v4 w) : w.cell? ⟨T, 1, none⟩ = some v1 := cell_of_row w T 1 _ _ _ h
theorem IsTm.c2 (h : IsTm T v0 v1 v2 v3 v4 w) : w.cell? ⟨T, 2, none⟩ = some v2 := cell_of_row w T 2 _ _ _ h
theorem IsTm.c3 (h : IsTm T v0 v1 v2 v3 v4 w) : w.cell? ⟨T, 3, none⟩ = some v3 := cell_of_row w T 3 _ _ _ h
theorem IsTm.c4 (h : IsTm T v0 v1 v2 v3 v4 w) : w.cell? ⟨T, 4, none⟩ = some v4 := cell_of_row w T 4 _ _ _ h
theorem IsTm.fr (h : IsTm T v0 v1 v2 v3 v4 w) (i : Nat) : w.frozen? ⟨T, i, none⟩ = false := frozen_of_row w T i _ _ h
theorem IsTm.lt (h : IsTm T v0 v1 v2 v3 v4 w) : T < w.heap.size := (Array.getElem?_eq_some_iff.1 h).1
theorem IsTm.below {w' : World} (h : IsTm T v0 v1 v2 v3 v4 w) (hb : Below w.heap.size w w') : IsTm T v0 v1 v2 v3 v4 w' := (hb.block T h.lt).trans h
theorem IsTm.alloc (h : IsTm T v0 v1 v2 v3 v4 w) (o : Obj) : IsTm T v0 v1 v2 v3 v4 (w.alloc o) := h.below ((Below.refl _ _).alloc (Nat.le_refl _) o)
theorem IsTm.grown {w' : World} {row : Option Nat} (h : IsTm T v0 v1 v2 v3 v4 w) (hg : w.grownBy w' row) (hne : some T ≠ row) : IsTm T v0 v1 v2 v3 v4 w' := (hg.block T h.lt hne).trans h
theorem IsTm.new (w : World) : IsTm w.heap.size v0 v1 v2 v3 v4 (w.alloc (.cells #[v0, v1, v2, v3, v4] 45)) := heap_alloc_new w _
theorem IsTm.far {T2 : Nat} (h : IsTm T v0 v1 v2 v3 v4 w) (hne : T ≠ T2) (i : Nat) (v : Value) : IsTm T v0 v1 v2 v3 v4 (w.setCell ⟨T2, i, none⟩ v) := (Below.heap_setCell _ _ _ _ hne).trans h
end
theorem IsTm.set0 {T : Nat} {v0 v1 v2 v3 v4 : Value} {w : World} (h : IsTm T v0 v1 v2 v3 v4 w) (u : Value) : IsTm T u v1 v2 v3 v4 (w.setCell ⟨T, 0, none⟩ u) := set_block h u
theorem IsTm.set1 {T : Nat} {v0 v1 v2 v3 v4 : Value} {w : World} (h : IsTm T v0 v1 v2 v3 v4 w) (u : Value) : IsTm T v0 u v2 v3 v4 (w.setCell ⟨T, 1, none⟩ u) := set_block h u
theorem IsTm.set2 {T : Nat} {v0 v1 v2 v3 v4 : Value} {w : World} (h : IsTm T v0 v1 v2 v3 v4 w) (u : Value) : IsTm T v0 v1 u v3 v4 (w.setCell ⟨T, 2, none⟩ u) := set_block h u
theorem IsTm.set3 {T : Nat} {v0 v1 v2 v3 v4 : Value} {w : World} (h : IsTm T v0 v1 v2 v3 v4 w) (u : Value) : IsTm T v0 v1 v2 u v4 (w.setCell ⟨T, 3, none⟩ u) := set_block h u
theorem IsTm.set4 {T : Nat} {v0 v1 v2 v3 v4 : Value} {w : World} (h : IsTm T v0 v1 v2 v3 v4 w) (u : Value) : IsTm T v0 v1 v2 v3 u (w.setCell ⟨T, 4, none⟩ u) := set_block h u
abbrev IsTmSet (T : Nat) (u0 u1 u2 u3 u4 : Value) (w : World) : World := (((((w.setCell ⟨T, 0, none⟩ u0).setCell ⟨T, 1, none⟩ u1).setCell ⟨T, 2, none⟩ u2).setCell ⟨T, 3, none⟩ u3).setCell ⟨T, 4, none⟩ u4)
theorem IsTm.set {T : Nat} {v0 v1 v2 v3 v4 : Value} {w : World} (h : IsTm T v0 v1 v2 v3 v4 w) (u0 u1 u2 u3 u4 : Value) : IsTm T u0 u1 u2 u3 u4 (IsTmSet T u0 u1 u2 u3 u4 w) := (((((h.set0 u0).set1 u1).set2 u2).set3 u3).set4 u4)
theorem below_IsTm {B T : Nat} {w w' : World} (h : Below B w w') (hT : B ≤ T) (u0 u1 u2 u3 u4 : Value) : Below B w (IsTmSet T u0 u1 u2 u3 u4 w') := (((((h.setCell (p := ⟨T, 0, none⟩) hT _).setCell (p := ⟨T, 1, none⟩) hT _).setCell (p := ⟨T, 2, none⟩) hT _).setCell (p := ⟨T, 3, none⟩) hT _).setCell (p := ⟨T, 4, none⟩) hT _)
def IsAt (T : Nat) (v0 v1 : Value) (w : World) : Prop := w.heap[T]? = some (.cells #[v0, v1] 25 (0, 0))
section
variable {T : Nat} {v0 v1 : Value} {w : World}
theorem IsAt.c0 (h : IsAt T v0 v1 w) : w.cell? ⟨T, 0, none⟩ = some v0 := cell_of_row w T 0 _ _ _ h
theorem IsAt.c1 (h : IsAt T v0 v1 w) : w.cell? ⟨T, 1, none⟩ = some v1 := cell_of_row w T 1 _ _ _ h
theorem IsAt.fr (h : IsAt T v0 v1 w) (i : Nat) : w.frozen? ⟨T, i, none⟩ = false := frozen_of_row w T i _ _ h
theorem IsAt.lt (h : IsAt T v0 v1 w) : T < w.heap.size := (Array.getElem?_eq_some_iff.1 h).1
theorem IsAt.below {w' : World} (h : IsAt T v0 v1 w) (hb : Below w.heap.size w w') : IsAt T v0 v1 w' := (hb.block T h.lt).trans h
theorem IsAt.alloc (h : IsAt T v0 v1 w) (o : Obj) : IsAt T v0 v1 (w.alloc o) := h.below ((Below.refl _ _).alloc (Nat.le_refl _) o)
theorem IsAt.grown {w' : World} {row : Option Nat} (h : IsAt T v0 v1 w) (hg : w.grownBy w' row) (hne : some T ≠ row) : IsAt T v0 v1 w' := (hg.block T h.lt hne).trans h
theorem IsAt.new (w : World) : IsAt w.heap.size v0 v1 (w.alloc (.cells #[v0, v1] 25)) := heap_alloc_new w _
theorem IsAt.far {T2 : Nat} (h : IsAt T v0 v1 w) (hne : T ≠ T2) (i : Nat) (v : Value) : IsAt T v0 v1 (w.setCell ⟨T2, i, none⟩ v) := (Below.heap_setCell _ _ _ _ hne).trans h
end
theorem IsAt.set0 {T : Nat} {v0 v1 : Value} {w : World} (h : IsAt T v0 v1 w) (u : Value) : IsAt T u v1 (w.setCell ⟨T, 0, none⟩ u) := set_block h u
theorem IsAt.set1 {T : Nat} {v0 v1 : Value} {w : World} (h : IsAt T v0 v1 w) (u : Value) : IsAt T v0 u (w.setCell ⟨T, 1, none⟩ u) := set_block h u
abbrev IsAtSet (T : Nat) (u0 u1 : Value) (w : World) : World := ((w.setCell ⟨T, 0, none⟩ u0).setCell ⟨T, 1, none⟩ u1)
theorem IsAt.set {T : Nat} {v0 v1 : Value} {w : World} (h : IsAt T v0 v1 w) (u0 u1 : Value) : IsAt T u0 u1 (IsAtSet T u0 u1 w) := ((h.set0 u0).set1 u1)
theorem below_IsAt {B T : Nat} {w w' : World} (h : Below B w w') (hT : B ≤ T) (u0 u1 : Value) : Below B w (IsAtSet T u0 u1 w') := ((h.setCell (p := ⟨T, 0, none⟩) hT _).setCell (p := ⟨T, 1, none⟩) hT _)
theorem IsSt.farIsSt {T T2 : Nat} {v0 v1 v2 : Value} {w : World} (h : IsSt T v0 v1 v2 w) (hne : T ≠ T2) (u0 u1 u2 : Value) : IsSt T v0 v1 v2 (IsStSet T2 u0 u1 u2 w) := (((h.far hne 0 u0).far hne 1 u1).far hne 2 u2)
theorem IsTm.farIsSt {T T2 : Nat} {v0 v1 v2 v3 v4 : Value} {w : World} (h : IsTm T v0 v1 v2 v3 v4 w) (hne : T ≠ T2) (u0 u1 u2 : Value) : IsTm T v0 v1 v2 v3 v4 (IsStSet T2 u0 u1 u2 w) := (((h.far hne 0 u0).far hne 1 u1).far hne 2 u2)
theorem IsAt.farIsSt {T T2 : Nat} {v0 v1 : Value} {w : World} (h : IsAt T v0 v1 w) (hne : T ≠ T2) (u0 u1 u2 : Value) : IsAt T v0 v1 (IsStSet T2 u0 u1 u2 w) := (((h.far hne 0 u0).far hne 1 u1).far hne 2 u2)
theorem IsSt.farIsTm {T T2 : Nat} {v0 v1 v2 : Value} {w : World} (h : IsSt T v0 v1 v2 w) (hne : T ≠ T2) (u0 u1 u2 u3 u4 : Value) : IsSt T v0 v1 v2 (IsTmSet T2 u0 u1 u2 u3 u4 w) := (((((h.far hne 0 u0).far hne 1 u1).far hne 2 u2).far hne 3 u3).far hne 4 u4)
theorem IsTm.farIsTm {T T2 : Nat} {v0 v1 v2 v3 v4 : Value} {w : World} (h : IsTm T v0 v1 v2 v3 v4 w) (hne : T ≠ T2) (u0 u1 u2 u3 u4 : Value) : IsTm T v0 v1 v2 v3 v4 (IsTmSet T2 u0 u1 u2 u3 u4 w) := (((((h.far hne 0 u0).far hne 1 u1).far hne 2 u2).far hne 3 u3).far hne 4 u4)
theorem IsAt.farIsTm {T T2 : Nat} {v0 v1 : Value} {w : World} (h : IsAt T v0 v1 w) (hne : T ≠ T2) (u0 u1 u2 u3 u4 : Value) : IsAt T v0 v1 (IsTmSet T2 u0 u1 u2 u3 u4 w) := (((((h.far hne 0 u0).far hne 1 u1).far hne 2 u2).far hne 3 u3).far hne 4 u4)
theorem IsSt.farIsAt {T T2 : Nat} {v0 v1 v2 : Value} {w : World} (h : IsSt T v0 v1 v2 w) (hne : T ≠ T2) (u0 u1 : Value) : IsSt T v0 v1 v2 (IsAtSet T2 u0 u1 w) := ((h.far hne 0 u0).far hne 1 u1)
theorem IsTm.farIsAt {T T2 : Nat} {v0 v1 v2 v3 v4 : Value} {w : World} (h : IsTm T v0 v1 v2 v3 v4 w) (hne : T ≠ T2) (u0 u1 : Value) : IsTm T v0 v1 v2 v3 v4 (IsAtSet T2 u0 u1 w) := ((h.far hne 0 u0).far hne 1 u1)
theorem IsAt.farIsAt {T T2 : Nat} {v0 v1 : Value} {w : World} (h : IsAt T v0 v1 w) (hne : T ≠ T2) (u0 u1 : Value) : IsAt T v0 v1 (IsAtSet T2 u0 u1 w) := ((h.far hne 0 u0).far hne 1 u1)

/-- A name that the document's parser hands back. -/
def rnameV (i : Nat) (t : Tok) (a : Nat) : Value := if t.k == 1 && !t.q && plainL t.s then .tuple #[.string (bs t.s), .agg #[.int .i64 ((i : Int) + 1), .int .i64 0, .int .i64 0]] else .tuple #[.string ⟨#[]⟩, .agg #[.int .i64 0, .int .i64 2, .int .i64 (a : Int)]]
set_option maxRecDepth 100000 in
set_option maxHeartbeats 8000000 in
theorem rname_calls (A : Option Addr) (n c : Nat) (L : List TP) (N i : Nat) (t : Tok) (a : Nat) (w : World) (h : TkAt w A n L) (hp : pk N (L.drop i) 0 = (t, a)) (hs : t.s.length ≤ 1048576) (hi : i ≤ 1000000) :
    Calls Tryz.prog 68 #[.agg #[.slice A n c, .int .i64 (N : Int)], .int .i64 (i : Int)] w fun e w' => Below w.heap.size w w' ∧
      e = .returned (rnameV i t a) := by
  generalize hv : rnameV i t a = v
  have HS := Lib.hid (show IsSt (w.heap.size + 1) (.int .i64 0) (.int .i64 0) (.int .i64 0) ((w.alloc (.cells #[.slice A n c, .int .i64 (N : Int)] 80)).alloc (.cells #[.int .i64 0, .int .i64 0, .int .i64 0] 76)) from by have h := IsSt.new (v0 := .int .i64 0) (v1 := .int .i64 0) (v2 := .int .i64 0) (w.alloc (.cells #[.slice A n c, .int .i64 (N : Int)] 80)); rwa [World.size_alloc] at h)
  have hb0 := ((Below.refl w.heap.size w).alloc (Nat.le_refl _) (.cells #[.slice A n c, .int .i64 (N : Int)] 80)).alloc (by simp) (.cells #[.int .i64 0, .int .i64 0, .int .i64 0] 76)
  have HB := Lib.hid hb0
  have HT0 := Lib.hid (h.below hb0)
  have HA := Lib.hid (fun (W : World) (h : TkAt W A n L) => rat_calls A n c L N i t a W h hp)
  have hsz : (bs t.s).size ≤ 1048576 := by rw [bs_size]; exact hs
  clear h hp hb0
  by_cases hk : t.k = 1
  · have hk1 : ((t.k : Nat) : Int) = 1 := by omega
    have HK := Lib.hid hk
    rw [hk1] at HA
    clear hk hk1
    cases hq : t.q with
    | true =>
      rw [hq] at HA
      obtain rfl : v = .tuple #[.string ⟨#[]⟩, .agg #[.int .i64 0, .int .i64 2, .int .i64 (a : Int)]] := by rw [← hv]; unfold rnameV; rw [if_neg (by simp [HK.out, hq])]
      clear hq hv
      go_enter Tryz.func68, Tryz.ntmps68
      go_wp2_with (first
        | (go_at_call 70; ((with_reducible refine (HA.out _ HT0.out).mono ?_); rintro e w2 ⟨rfl, hb2⟩; have HS2 := Lib.hid (HS.out.below hb2); have HB2 := Lib.hid (HB.out.trans (hb2.mono HB.out.size)); clear hb2))
        | (go_at_call 71; ((with_reducible refine (rfailed_calls _ _ _ _ _ 2 _).mono ?_); rintro e w3 ⟨rfl, hb3⟩; have HS3 := Lib.hid ((HS2.out.alloc (.cells #[.int .i64 1, .string (bs t.s), .int .i64 t.n, .bool true, .int .i64 (a : Int)] 71)).below hb3); have s0 := HS3.out.c0; have s1 := HS3.out.c1; have s2 := HS3.out.c2; have f0 := HS3.out.fr 0; have f1 := HS3.out.fr 1; have f2 := HS3.out.fr 2; have HB3 := Lib.hid ((HB2.out.alloc HB2.out.size (.cells #[.int .i64 1, .string (bs t.s), .int .i64 t.n, .bool true, .int .i64 (a : Int)] 71)).trans (hb3.mono (Nat.le_trans HB2.out.size (by simp)))); have e0 := cell_below hb3 (cell_of_row (w2.alloc (.cells #[.int .i64 1, .string (bs t.s), .int .i64 t.n, .bool true, .int .i64 (a : Int)] 71)) w2.heap.size 0 _ _ _ (heap_alloc_new w2 _)); have e1 := cell_below hb3 (cell_of_row (w2.alloc (.cells #[.int .i64 1, .string (bs t.s), .int .i64 t.n, .bool true, .int .i64 (a : Int)] 71)) w2.heap.size 1 _ _ _ (heap_alloc_new w2 _)); have e2 := cell_below hb3 (cell_of_row (w2.alloc (.cells #[.int .i64 1, .string (bs t.s), .int .i64 t.n, .bool true, .int .i64 (a : Int)] 71)) w2.heap.size 2 _ _ _ (heap_alloc_new w2 _)); have e3 := cell_below hb3 (cell_of_row (w2.alloc (.cells #[.int .i64 1, .string (bs t.s), .int .i64 t.n, .bool true, .int .i64 (a : Int)] 71)) w2.heap.size 3 _ _ _ (heap_alloc_new w2 _)); have e4 := cell_below hb3 (cell_of_row (w2.alloc (.cells #[.int .i64 1, .string (bs t.s), .int .i64 t.n, .bool true, .int .i64 (a : Int)] 71)) w2.heap.size 4 _ _ _ (heap_alloc_new w2 _)); clear hb3)))
      have hset := HS3.out.set (.int .i64 0) (.int .i64 2) (.int .i64 (a : Int))
      have r0 := hset.c0; have r1 := hset.c1; have r2 := hset.c2
      refine bodyPost_ret (v := .tuple #[.string ⟨#[]⟩, .agg #[.int .i64 0, .int .i64 2, .int .i64 (a : Int)]]) (by simp [results, Tryz.results68, go_sem, r0, r1, r2]) rfl ⟨below_IsSt HB3.out (Nat.le_succ _) _ _ _, rfl⟩
    | false =>
      rw [hq] at HA
      cases hpl : plainL t.s with
      | true =>
        obtain rfl : v = .tuple #[.string (bs t.s), .agg #[.int .i64 ((i : Int) + 1), .int .i64 0, .int .i64 0]] := by rw [← hv]; unfold rnameV; rw [if_pos (by simp [HK.out, hq, hpl])]
        clear hq hv
        go_enter Tryz.func68, Tryz.ntmps68
        go_wp2_with (first
          | (go_at_call 70; ((with_reducible refine (HA.out _ HT0.out).mono ?_); rintro e w2 ⟨rfl, hb2⟩; have HS2 := Lib.hid (HS.out.below hb2); have HB2 := Lib.hid (HB.out.trans (hb2.mono HB.out.size)); clear hb2))
          | (go_at_call 49; ((with_reducible refine (refPlain_calls (bs t.s) _ hsz).mono ?_); rw [show plainL (bs t.s).data.toList = true from hpl]; rintro e w3 ⟨rfl, hb3⟩; have HS3 := Lib.hid ((HS2.out.alloc (.cells #[.int .i64 1, .string (bs t.s), .int .i64 t.n, .bool false, .int .i64 (a : Int)] 71)).below hb3); have s0 := HS3.out.c0; have s1 := HS3.out.c1; have s2 := HS3.out.c2; have f0 := HS3.out.fr 0; have f1 := HS3.out.fr 1; have f2 := HS3.out.fr 2; have HB3 := Lib.hid ((HB2.out.alloc HB2.out.size (.cells #[.int .i64 1, .string (bs t.s), .int .i64 t.n, .bool false, .int .i64 (a : Int)] 71)).trans (hb3.mono (Nat.le_trans HB2.out.size (by simp)))); have e0 := cell_below hb3 (cell_of_row (w2.alloc (.cells #[.int .i64 1, .string (bs t.s), .int .i64 t.n, .bool false, .int .i64 (a : Int)] 71)) w2.heap.size 0 _ _ _ (heap_alloc_new w2 _)); have e1 := cell_below hb3 (cell_of_row (w2.alloc (.cells #[.int .i64 1, .string (bs t.s), .int .i64 t.n, .bool false, .int .i64 (a : Int)] 71)) w2.heap.size 1 _ _ _ (heap_alloc_new w2 _)); have e2 := cell_below hb3 (cell_of_row (w2.alloc (.cells #[.int .i64 1, .string (bs t.s), .int .i64 t.n, .bool false, .int .i64 (a : Int)] 71)) w2.heap.size 2 _ _ _ (heap_alloc_new w2 _)); have e3 := cell_below hb3 (cell_of_row (w2.alloc (.cells #[.int .i64 1, .string (bs t.s), .int .i64 t.n, .bool false, .int .i64 (a : Int)] 71)) w2.heap.size 3 _ _ _ (heap_alloc_new w2 _)); have e4 := cell_below hb3 (cell_of_row (w2.alloc (.cells #[.int .i64 1, .string (bs t.s), .int .i64 t.n, .bool false, .int .i64 (a : Int)] 71)) w2.heap.size 4 _ _ _ (heap_alloc_new w2 _)); clear hb3)))
        have hset := HS3.out.set (.int .i64 ((i : Int) + 1)) (.int .i64 0) (.int .i64 0)
        have r0 := hset.c0; have r1 := hset.c1; have r2 := hset.c2
        refine bodyPost_ret (v := .tuple #[.string (bs t.s), .agg #[.int .i64 ((i : Int) + 1), .int .i64 0, .int .i64 0]]) (by simp [results, Tryz.results68, go_sem, r0, r1, r2]) rfl ⟨below_IsSt HB3.out (Nat.le_succ _) _ _ _, rfl⟩
      | false =>
        obtain rfl : v = .tuple #[.string ⟨#[]⟩, .agg #[.int .i64 0, .int .i64 2, .int .i64 (a : Int)]] := by rw [← hv]; unfold rnameV; rw [if_neg (by simp [HK.out, hq, hpl])]
        clear hq hv
        go_enter Tryz.func68, Tryz.ntmps68
        go_wp2_with (first
          | (go_at_call 70; ((with_reducible refine (HA.out _ HT0.out).mono ?_); rintro e w2 ⟨rfl, hb2⟩; have HS2 := Lib.hid (HS.out.below hb2); have HB2 := Lib.hid (HB.out.trans (hb2.mono HB.out.size)); clear hb2))
          | (go_at_call 49; ((with_reducible refine (refPlain_calls (bs t.s) _ hsz).mono ?_); rw [show plainL (bs t.s).data.toList = false from hpl]; rintro e w3 ⟨rfl, hb3⟩; have HS3 := Lib.hid ((HS2.out.alloc (.cells #[.int .i64 1, .string (bs t.s), .int .i64 t.n, .bool false, .int .i64 (a : Int)] 71)).below hb3); have s0 := HS3.out.c0; have s1 := HS3.out.c1; have s2 := HS3.out.c2; have f0 := HS3.out.fr 0; have f1 := HS3.out.fr 1; have f2 := HS3.out.fr 2; have HB3 := Lib.hid ((HB2.out.alloc HB2.out.size (.cells #[.int .i64 1, .string (bs t.s), .int .i64 t.n, .bool false, .int .i64 (a : Int)] 71)).trans (hb3.mono (Nat.le_trans HB2.out.size (by simp)))); have e0 := cell_below hb3 (cell_of_row (w2.alloc (.cells #[.int .i64 1, .string (bs t.s), .int .i64 t.n, .bool false, .int .i64 (a : Int)] 71)) w2.heap.size 0 _ _ _ (heap_alloc_new w2 _)); have e1 := cell_below hb3 (cell_of_row (w2.alloc (.cells #[.int .i64 1, .string (bs t.s), .int .i64 t.n, .bool false, .int .i64 (a : Int)] 71)) w2.heap.size 1 _ _ _ (heap_alloc_new w2 _)); have e2 := cell_below hb3 (cell_of_row (w2.alloc (.cells #[.int .i64 1, .string (bs t.s), .int .i64 t.n, .bool false, .int .i64 (a : Int)] 71)) w2.heap.size 2 _ _ _ (heap_alloc_new w2 _)); have e3 := cell_below hb3 (cell_of_row (w2.alloc (.cells #[.int .i64 1, .string (bs t.s), .int .i64 t.n, .bool false, .int .i64 (a : Int)] 71)) w2.heap.size 3 _ _ _ (heap_alloc_new w2 _)); have e4 := cell_below hb3 (cell_of_row (w2.alloc (.cells #[.int .i64 1, .string (bs t.s), .int .i64 t.n, .bool false, .int .i64 (a : Int)] 71)) w2.heap.size 4 _ _ _ (heap_alloc_new w2 _)); clear hb3))
          | (go_at_call 71; ((with_reducible refine (rfailed_calls _ _ _ _ _ 2 _).mono ?_); rintro e w4 ⟨rfl, hb4⟩; have HS4 := Lib.hid (HS3.out.below hb4); have s0 := HS4.out.c0; have s1 := HS4.out.c1; have s2 := HS4.out.c2; have f0 := HS4.out.fr 0; have f1 := HS4.out.fr 1; have f2 := HS4.out.fr 2; have HB4 := Lib.hid (HB3.out.trans (hb4.mono HB3.out.size)); clear hb4)))
        have hset := HS4.out.set (.int .i64 0) (.int .i64 2) (.int .i64 (a : Int))
        have r0 := hset.c0; have r1 := hset.c1; have r2 := hset.c2
        refine bodyPost_ret (v := .tuple #[.string ⟨#[]⟩, .agg #[.int .i64 0, .int .i64 2, .int .i64 (a : Int)]]) (by simp [results, Tryz.results68, go_sem, r0, r1, r2]) rfl ⟨below_IsSt HB4.out (Nat.le_succ _) _ _ _, rfl⟩
  · obtain rfl : v = .tuple #[.string ⟨#[]⟩, .agg #[.int .i64 0, .int .i64 2, .int .i64 (a : Int)]] := by rw [← hv]; unfold rnameV; rw [if_neg (by simp [hk])]
    clear hv
    have hk1 : (((t.k : Nat) : Int) != 1) = true := by simp; omega
    go_enter Tryz.func68, Tryz.ntmps68
    go_wp2_with (first
      | (go_at_call 70; ((with_reducible refine (HA.out _ HT0.out).mono ?_); rintro e w2 ⟨rfl, hb2⟩; have HS2 := Lib.hid (HS.out.below hb2); have HB2 := Lib.hid (HB.out.trans (hb2.mono HB.out.size)); clear hb2))
      | (go_at_call 71; ((with_reducible refine (rfailed_calls _ _ _ _ _ 2 _).mono ?_); rintro e w3 ⟨rfl, hb3⟩; have HS3 := Lib.hid ((HS2.out.alloc (.cells #[.int .i64 (t.k : Int), .string (bs t.s), .int .i64 t.n, .bool t.q, .int .i64 (a : Int)] 71)).below hb3); have s0 := HS3.out.c0; have s1 := HS3.out.c1; have s2 := HS3.out.c2; have f0 := HS3.out.fr 0; have f1 := HS3.out.fr 1; have f2 := HS3.out.fr 2; have HB3 := Lib.hid ((HB2.out.alloc HB2.out.size (.cells #[.int .i64 (t.k : Int), .string (bs t.s), .int .i64 t.n, .bool t.q, .int .i64 (a : Int)] 71)).trans (hb3.mono (Nat.le_trans HB2.out.size (by simp)))); have e0 := cell_below hb3 (cell_of_row (w2.alloc (.cells #[.int .i64 (t.k : Int), .string (bs t.s), .int .i64 t.n, .bool t.q, .int .i64 (a : Int)] 71)) w2.heap.size 0 _ _ _ (heap_alloc_new w2 _)); have e1 := cell_below hb3 (cell_of_row (w2.alloc (.cells #[.int .i64 (t.k : Int), .string (bs t.s), .int .i64 t.n, .bool t.q, .int .i64 (a : Int)] 71)) w2.heap.size 1 _ _ _ (heap_alloc_new w2 _)); have e2 := cell_below hb3 (cell_of_row (w2.alloc (.cells #[.int .i64 (t.k : Int), .string (bs t.s), .int .i64 t.n, .bool t.q, .int .i64 (a : Int)] 71)) w2.heap.size 2 _ _ _ (heap_alloc_new w2 _)); have e3 := cell_below hb3 (cell_of_row (w2.alloc (.cells #[.int .i64 (t.k : Int), .string (bs t.s), .int .i64 t.n, .bool t.q, .int .i64 (a : Int)] 71)) w2.heap.size 3 _ _ _ (heap_alloc_new w2 _)); have e4 := cell_below hb3 (cell_of_row (w2.alloc (.cells #[.int .i64 (t.k : Int), .string (bs t.s), .int .i64 t.n, .bool t.q, .int .i64 (a : Int)] 71)) w2.heap.size 4 _ _ _ (heap_alloc_new w2 _)); clear hb3)))
    have hset := HS3.out.set (.int .i64 0) (.int .i64 2) (.int .i64 (a : Int))
    have r0 := hset.c0; have r1 := hset.c1; have r2 := hset.c2
    refine bodyPost_ret (v := .tuple #[.string ⟨#[]⟩, .agg #[.int .i64 0, .int .i64 2, .int .i64 (a : Int)]]) (by simp [results, Tryz.results68, go_sem, r0, r1, r2]) rfl ⟨below_IsSt HB3.out (Nat.le_succ _) _ _ _, rfl⟩

/-- A term that the document's parser hands back. -/
def rtermV (i : Nat) (t : Tok) (a : Nat) : Value :=
  if t.k == 2 then .tuple #[.agg #[.bool true, .string (bs t.s), .bool false, .string ⟨#[]⟩, .int .i64 0], .agg #[.int .i64 ((i : Int) + 1), .int .i64 0, .int .i64 0]]
  else if t.k == 3 then .tuple #[.agg #[.bool false, .string ⟨#[]⟩, .bool false, .string ⟨#[]⟩, .int .i64 t.n], .agg #[.int .i64 ((i : Int) + 1), .int .i64 0, .int .i64 0]]
  else if t.k == 1 && (t.q || !(t.s == notL)) then .tuple #[.agg #[.bool false, .string ⟨#[]⟩, .bool true, .string (bs t.s), .int .i64 0], .agg #[.int .i64 ((i : Int) + 1), .int .i64 0, .int .i64 0]]
  else .tuple #[.agg #[.bool false, .string ⟨#[]⟩, .bool false, .string ⟨#[]⟩, .int .i64 0], .agg #[.int .i64 0, .int .i64 2, .int .i64 (a : Int)]]
set_option maxRecDepth 100000 in
set_option maxHeartbeats 8000000 in
theorem rterm_calls (A : Option Addr) (n c : Nat) (L : List TP) (N i : Nat) (t : Tok) (a : Nat) (w : World) (h : TkAt w A n L) (hp : pk N (L.drop i) 0 = (t, a)) (hi : i ≤ 1000000) :
    Calls Tryz.prog 72 #[.agg #[.slice A n c, .int .i64 (N : Int)], .int .i64 (i : Int)] w fun e w' => Below w.heap.size w w' ∧ e = .returned (rtermV i t a) := by
  have HS := Lib.hid (show IsSt (w.heap.size + 1 + 1) (.int .i64 0) (.int .i64 0) (.int .i64 0) (((w.alloc (.cells #[.slice A n c, .int .i64 (N : Int)] 80)).alloc (.cells #[.bool false, .string ⟨#[]⟩, .bool false, .string ⟨#[]⟩, .int .i64 0] 45)).alloc (.cells #[.int .i64 0, .int .i64 0, .int .i64 0] 76)) from by have h := IsSt.new (v0 := .int .i64 0) (v1 := .int .i64 0) (v2 := .int .i64 0) ((w.alloc (.cells #[.slice A n c, .int .i64 (N : Int)] 80)).alloc (.cells #[.bool false, .string ⟨#[]⟩, .bool false, .string ⟨#[]⟩, .int .i64 0] 45)); rwa [World.size_alloc, World.size_alloc] at h)
  have HM := Lib.hid (show IsTm (w.heap.size + 1) (.bool false) (.string ⟨#[]⟩) (.bool false) (.string ⟨#[]⟩) (.int .i64 0) (((w.alloc (.cells #[.slice A n c, .int .i64 (N : Int)] 80)).alloc (.cells #[.bool false, .string ⟨#[]⟩, .bool false, .string ⟨#[]⟩, .int .i64 0] 45)).alloc (.cells #[.int .i64 0, .int .i64 0, .int .i64 0] 76)) from by have h := IsTm.new (v0 := .bool false) (v1 := .string ⟨#[]⟩) (v2 := .bool false) (v3 := .string ⟨#[]⟩) (v4 := .int .i64 0) (w.alloc (.cells #[.slice A n c, .int .i64 (N : Int)] 80)); rw [World.size_alloc] at h; exact h.alloc _)
  have hb0 := (((Below.refl w.heap.size w).alloc (Nat.le_refl _) (.cells #[.slice A n c, .int .i64 (N : Int)] 80)).alloc (by simp) (.cells #[.bool false, .string ⟨#[]⟩, .bool false, .string ⟨#[]⟩, .int .i64 0] 45)).alloc (by simp; omega) (.cells #[.int .i64 0, .int .i64 0, .int .i64 0] 76)
  have HB := Lib.hid hb0
  have HT0 := Lib.hid (h.below hb0)
  have HA := Lib.hid (fun (W : World) (h : TkAt W A n L) => rat_calls A n c L N i t a W h hp)
  clear h hp hb0
  obtain ⟨k, s, m, q⟩ := t
  dsimp only at HA
  generalize hv : rtermV i ⟨k, s, m, q⟩ a = v
  by_cases h2 : k = 2
  · subst h2
    obtain rfl : v = .tuple #[.agg #[.bool true, .string (bs s), .bool false, .string ⟨#[]⟩, .int .i64 0], .agg #[.int .i64 ((i : Int) + 1), .int .i64 0, .int .i64 0]] := by rw [← hv]; simp [rtermV]
    clear hv
    go_enter Tryz.func72, Tryz.ntmps72
    go_wp2_with (first
      | (go_at_call 70; ((with_reducible refine (HA.out _ HT0.out).mono ?_); rintro e w2 ⟨rfl, hb2⟩; have HS3 := Lib.hid ((HS.out.below hb2).alloc (.cells #[.int .i64 2, .string (bs s), .int .i64 m, .bool q, .int .i64 (a : Int)] 71)); have HM3 := Lib.hid ((HM.out.below hb2).alloc (.cells #[.int .i64 2, .string (bs s), .int .i64 m, .bool q, .int .i64 (a : Int)] 71)); have s0 := HS3.out.c0; have f0 := HS3.out.fr 0; have s1 := HS3.out.c1; have f1 := HS3.out.fr 1; have s2 := HS3.out.c2; have f2 := HS3.out.fr 2; have m0 := HM3.out.c0; have g0 := HM3.out.fr 0; have m1 := HM3.out.c1; have g1 := HM3.out.fr 1; have m2 := HM3.out.c2; have g2 := HM3.out.fr 2; have m3 := HM3.out.c3; have g3 := HM3.out.fr 3; have m4 := HM3.out.c4; have g4 := HM3.out.fr 4; have HB2 := Lib.hid (HB.out.trans (hb2.mono HB.out.size)); have HB3 := Lib.hid (HB2.out.alloc HB2.out.size (.cells #[.int .i64 2, .string (bs s), .int .i64 m, .bool q, .int .i64 (a : Int)] 71)); clear hb2)))
    have hm1 := (HM3.out.set (.bool true) (.string (bs s)) (.bool false) (.string ⟨#[]⟩) (.int .i64 0)).farIsSt (T2 := w.heap.size + 1 + 1) (by omega) (.int .i64 ((i : Int) + 1)) (.int .i64 0) (.int .i64 0)
    have hs1 := (HS3.out.farIsTm (T2 := w.heap.size + 1) (by omega) (.bool true) (.string (bs s)) (.bool false) (.string ⟨#[]⟩) (.int .i64 0)).set (.int .i64 ((i : Int) + 1)) (.int .i64 0) (.int .i64 0)
    have r0 := hs1.c0
    have r1 := hs1.c1
    have r2 := hs1.c2
    have q0 := hm1.c0
    have q1 := hm1.c1
    have q2 := hm1.c2
    have q3 := hm1.c3
    have q4 := hm1.c4
    refine bodyPost_ret (v := .tuple #[.agg #[.bool true, .string (bs s), .bool false, .string ⟨#[]⟩, .int .i64 0], .agg #[.int .i64 ((i : Int) + 1), .int .i64 0, .int .i64 0]]) (by simp [results, Tryz.results72, go_sem, r0, r1, r2, q0, q1, q2, q3, q4]) rfl ⟨below_IsSt (below_IsTm HB3.out (by omega) _ _ _ _ _) (by omega) _ _ _, rfl⟩
  · by_cases h3 : k = 3
    · subst h3
      obtain rfl : v = .tuple #[.agg #[.bool false, .string ⟨#[]⟩, .bool false, .string ⟨#[]⟩, .int .i64 m], .agg #[.int .i64 ((i : Int) + 1), .int .i64 0, .int .i64 0]] := by rw [← hv]; simp [rtermV]
      clear hv
      go_enter Tryz.func72, Tryz.ntmps72
      go_wp2_with (first
        | (go_at_call 70; ((with_reducible refine (HA.out _ HT0.out).mono ?_); rintro e w2 ⟨rfl, hb2⟩; have HS3 := Lib.hid ((HS.out.below hb2).alloc (.cells #[.int .i64 3, .string (bs s), .int .i64 m, .bool q, .int .i64 (a : Int)] 71)); have HM3 := Lib.hid ((HM.out.below hb2).alloc (.cells #[.int .i64 3, .string (bs s), .int .i64 m, .bool q, .int .i64 (a : Int)] 71)); have s0 := HS3.out.c0; have f0 := HS3.out.fr 0; have s1 := HS3.out.c1; have f1 := HS3.out.fr 1; have s2 := HS3.out.c2; have f2 := HS3.out.fr 2; have m0 := HM3.out.c0; have g0 := HM3.out.fr 0; have m1 := HM3.out.c1; have g1 := HM3.out.fr 1; have m2 := HM3.out.c2; have g2 := HM3.out.fr 2; have m3 := HM3.out.c3; have g3 := HM3.out.fr 3; have m4 := HM3.out.c4; have g4 := HM3.out.fr 4; have HB2 := Lib.hid (HB.out.trans (hb2.mono HB.out.size)); have HB3 := Lib.hid (HB2.out.alloc HB2.out.size (.cells #[.int .i64 3, .string (bs s), .int .i64 m, .bool q, .int .i64 (a : Int)] 71)); clear hb2)))
      have hm1 := (HM3.out.set (.bool false) (.string ⟨#[]⟩) (.bool false) (.string ⟨#[]⟩) (.int .i64 m)).farIsSt (T2 := w.heap.size + 1 + 1) (by omega) (.int .i64 ((i : Int) + 1)) (.int .i64 0) (.int .i64 0)
      have hs1 := (HS3.out.farIsTm (T2 := w.heap.size + 1) (by omega) (.bool false) (.string ⟨#[]⟩) (.bool false) (.string ⟨#[]⟩) (.int .i64 m)).set (.int .i64 ((i : Int) + 1)) (.int .i64 0) (.int .i64 0)
      have r0 := hs1.c0
      have r1 := hs1.c1
      have r2 := hs1.c2
      have q0 := hm1.c0
      have q1 := hm1.c1
      have q2 := hm1.c2
      have q3 := hm1.c3
      have q4 := hm1.c4
      refine bodyPost_ret (v := .tuple #[.agg #[.bool false, .string ⟨#[]⟩, .bool false, .string ⟨#[]⟩, .int .i64 m], .agg #[.int .i64 ((i : Int) + 1), .int .i64 0, .int .i64 0]]) (by simp [results, Tryz.results72, go_sem, r0, r1, r2, q0, q1, q2, q3, q4]) rfl ⟨below_IsSt (below_IsTm HB3.out (by omega) _ _ _ _ _) (by omega) _ _ _, rfl⟩
    · have h2' : (k == 2) = false := by simpa using h2
      have h3' : (k == 3) = false := by simpa using h3
      by_cases h1 : k = 1
      · subst h1
        clear h2 h3 h2' h3'
        cases q with
        | true =>
          obtain rfl : v = .tuple #[.agg #[.bool false, .string ⟨#[]⟩, .bool true, .string (bs s), .int .i64 0], .agg #[.int .i64 ((i : Int) + 1), .int .i64 0, .int .i64 0]] := by rw [← hv]; simp [rtermV]
          clear hv
          go_enter Tryz.func72, Tryz.ntmps72
          go_wp2_with (first
            | (go_at_call 70; ((with_reducible refine (HA.out _ HT0.out).mono ?_); rintro e w2 ⟨rfl, hb2⟩; have HS3 := Lib.hid ((HS.out.below hb2).alloc (.cells #[.int .i64 1, .string (bs s), .int .i64 m, .bool true, .int .i64 (a : Int)] 71)); have HM3 := Lib.hid ((HM.out.below hb2).alloc (.cells #[.int .i64 1, .string (bs s), .int .i64 m, .bool true, .int .i64 (a : Int)] 71)); have s0 := HS3.out.c0; have f0 := HS3.out.fr 0; have s1 := HS3.out.c1; have f1 := HS3.out.fr 1; have s2 := HS3.out.c2; have f2 := HS3.out.fr 2; have m0 := HM3.out.c0; have g0 := HM3.out.fr 0; have m1 := HM3.out.c1; have g1 := HM3.out.fr 1; have m2 := HM3.out.c2; have g2 := HM3.out.fr 2; have m3 := HM3.out.c3; have g3 := HM3.out.fr 3; have m4 := HM3.out.c4; have g4 := HM3.out.fr 4; have HB2 := Lib.hid (HB.out.trans (hb2.mono HB.out.size)); have HB3 := Lib.hid (HB2.out.alloc HB2.out.size (.cells #[.int .i64 1, .string (bs s), .int .i64 m, .bool true, .int .i64 (a : Int)] 71)); clear hb2)))
          have hm1 := (HM3.out.set (.bool false) (.string ⟨#[]⟩) (.bool true) (.string (bs s)) (.int .i64 0)).farIsSt (T2 := w.heap.size + 1 + 1) (by omega) (.int .i64 ((i : Int) + 1)) (.int .i64 0) (.int .i64 0)
          have hs1 := (HS3.out.farIsTm (T2 := w.heap.size + 1) (by omega) (.bool false) (.string ⟨#[]⟩) (.bool true) (.string (bs s)) (.int .i64 0)).set (.int .i64 ((i : Int) + 1)) (.int .i64 0) (.int .i64 0)
          have r0 := hs1.c0
          have r1 := hs1.c1
          have r2 := hs1.c2
          have q0 := hm1.c0
          have q1 := hm1.c1
          have q2 := hm1.c2
          have q3 := hm1.c3
          have q4 := hm1.c4
          refine bodyPost_ret (v := .tuple #[.agg #[.bool false, .string ⟨#[]⟩, .bool true, .string (bs s), .int .i64 0], .agg #[.int .i64 ((i : Int) + 1), .int .i64 0, .int .i64 0]]) (by simp [results, Tryz.results72, go_sem, r0, r1, r2, q0, q1, q2, q3, q4]) rfl ⟨below_IsSt (below_IsTm HB3.out (by omega) _ _ _ _ _) (by omega) _ _ _, rfl⟩
        | false =>
          cases hs : ((bs s).toList == [110, 111, 116]) with
          | true =>
            have hs' : ((bs s).toList != [110, 111, 116]) = false := by simpa using hs
            have HE := Lib.hid (show (s == notL) = true by rw [← bs_list s]; exact hs)
            obtain rfl : v = .tuple #[.agg #[.bool false, .string ⟨#[]⟩, .bool false, .string ⟨#[]⟩, .int .i64 0], .agg #[.int .i64 0, .int .i64 2, .int .i64 (a : Int)]] := by rw [← hv]; simp [rtermV, HE.out]
            clear hv
            go_enter Tryz.func72, Tryz.ntmps72
            go_wp2_with (first
              | (go_at_call 70; ((with_reducible refine (HA.out _ HT0.out).mono ?_); rintro e w2 ⟨rfl, hb2⟩; have HS2 := Lib.hid (HS.out.below hb2); have HM2 := Lib.hid (HM.out.below hb2); have HB2 := Lib.hid (HB.out.trans (hb2.mono HB.out.size)); clear hb2))
              | (go_at_call 71; ((with_reducible refine (rfailed_calls _ _ _ _ _ 2 _).mono ?_); rintro e w3 ⟨rfl, hb3⟩; have HS3 := Lib.hid ((HS2.out.alloc (.cells #[.int .i64 1, .string (bs s), .int .i64 m, .bool false, .int .i64 (a : Int)] 71)).below hb3); have HM3 := Lib.hid ((HM2.out.alloc (.cells #[.int .i64 1, .string (bs s), .int .i64 m, .bool false, .int .i64 (a : Int)] 71)).below hb3); have s0 := HS3.out.c0; have f0 := HS3.out.fr 0; have s1 := HS3.out.c1; have f1 := HS3.out.fr 1; have s2 := HS3.out.c2; have f2 := HS3.out.fr 2; have m0 := HM3.out.c0; have g0 := HM3.out.fr 0; have m1 := HM3.out.c1; have g1 := HM3.out.fr 1; have m2 := HM3.out.c2; have g2 := HM3.out.fr 2; have m3 := HM3.out.c3; have g3 := HM3.out.fr 3; have m4 := HM3.out.c4; have g4 := HM3.out.fr 4; have HB3 := Lib.hid ((HB2.out.alloc HB2.out.size (.cells #[.int .i64 1, .string (bs s), .int .i64 m, .bool false, .int .i64 (a : Int)] 71)).trans (hb3.mono (Nat.le_trans HB2.out.size (by simp)))); clear hb3)))
            have hm1 := (HM3.out.set (.bool false) (.string ⟨#[]⟩) (.bool false) (.string ⟨#[]⟩) (.int .i64 0)).farIsSt (T2 := w.heap.size + 1 + 1) (by omega) (.int .i64 0) (.int .i64 2) (.int .i64 (a : Int))
            have hs1 := (HS3.out.farIsTm (T2 := w.heap.size + 1) (by omega) (.bool false) (.string ⟨#[]⟩) (.bool false) (.string ⟨#[]⟩) (.int .i64 0)).set (.int .i64 0) (.int .i64 2) (.int .i64 (a : Int))
            have r0 := hs1.c0
            have r1 := hs1.c1
            have r2 := hs1.c2
            have q0 := hm1.c0
            have q1 := hm1.c1
            have q2 := hm1.c2
            have q3 := hm1.c3
            have q4 := hm1.c4
            refine bodyPost_ret (v := .tuple #[.agg #[.bool false, .string ⟨#[]⟩, .bool false, .string ⟨#[]⟩, .int .i64 0], .agg #[.int .i64 0, .int .i64 2, .int .i64 (a : Int)]]) (by simp [results, Tryz.results72, go_sem, r0, r1, r2, q0, q1, q2, q3, q4]) rfl ⟨below_IsSt (below_IsTm HB3.out (by omega) _ _ _ _ _) (by omega) _ _ _, rfl⟩
          | false =>
            have hs' : ((bs s).toList != [110, 111, 116]) = true := by simpa using hs
            have HE := Lib.hid (show (s == notL) = false by rw [← bs_list s]; exact hs)
            obtain rfl : v = .tuple #[.agg #[.bool false, .string ⟨#[]⟩, .bool true, .string (bs s), .int .i64 0], .agg #[.int .i64 ((i : Int) + 1), .int .i64 0, .int .i64 0]] := by rw [← hv]; simp [rtermV, HE.out]
            clear hv
            go_enter Tryz.func72, Tryz.ntmps72
            go_wp2_with (first
              | (go_at_call 70; ((with_reducible refine (HA.out _ HT0.out).mono ?_); rintro e w2 ⟨rfl, hb2⟩; have HS3 := Lib.hid ((HS.out.below hb2).alloc (.cells #[.int .i64 1, .string (bs s), .int .i64 m, .bool false, .int .i64 (a : Int)] 71)); have HM3 := Lib.hid ((HM.out.below hb2).alloc (.cells #[.int .i64 1, .string (bs s), .int .i64 m, .bool false, .int .i64 (a : Int)] 71)); have s0 := HS3.out.c0; have f0 := HS3.out.fr 0; have s1 := HS3.out.c1; have f1 := HS3.out.fr 1; have s2 := HS3.out.c2; have f2 := HS3.out.fr 2; have m0 := HM3.out.c0; have g0 := HM3.out.fr 0; have m1 := HM3.out.c1; have g1 := HM3.out.fr 1; have m2 := HM3.out.c2; have g2 := HM3.out.fr 2; have m3 := HM3.out.c3; have g3 := HM3.out.fr 3; have m4 := HM3.out.c4; have g4 := HM3.out.fr 4; have HB2 := Lib.hid (HB.out.trans (hb2.mono HB.out.size)); have HB3 := Lib.hid (HB2.out.alloc HB2.out.size (.cells #[.int .i64 1, .string (bs s), .int .i64 m, .bool false, .int .i64 (a : Int)] 71)); clear hb2)))
            have hm1 := (HM3.out.set (.bool false) (.string ⟨#[]⟩) (.bool true) (.string (bs s)) (.int .i64 0)).farIsSt (T2 := w.heap.size + 1 + 1) (by omega) (.int .i64 ((i : Int) + 1)) (.int .i64 0) (.int .i64 0)
            have hs1 := (HS3.out.farIsTm (T2 := w.heap.size + 1) (by omega) (.bool false) (.string ⟨#[]⟩) (.bool true) (.string (bs s)) (.int .i64 0)).set (.int .i64 ((i : Int) + 1)) (.int .i64 0) (.int .i64 0)
            have r0 := hs1.c0
            have r1 := hs1.c1
            have r2 := hs1.c2
            have q0 := hm1.c0
            have q1 := hm1.c1
            have q2 := hm1.c2
            have q3 := hm1.c3
            have q4 := hm1.c4
            refine bodyPost_ret (v := .tuple #[.agg #[.bool false, .string ⟨#[]⟩, .bool true, .string (bs s), .int .i64 0], .agg #[.int .i64 ((i : Int) + 1), .int .i64 0, .int .i64 0]]) (by simp [results, Tryz.results72, go_sem, r0, r1, r2, q0, q1, q2, q3, q4]) rfl ⟨below_IsSt (below_IsTm HB3.out (by omega) _ _ _ _ _) (by omega) _ _ _, rfl⟩
      · have h1' : (k == 1) = false := by simpa using h1
        obtain rfl : v = .tuple #[.agg #[.bool false, .string ⟨#[]⟩, .bool false, .string ⟨#[]⟩, .int .i64 0], .agg #[.int .i64 0, .int .i64 2, .int .i64 (a : Int)]] := by rw [← hv]; simp [rtermV, h1, h2, h3]
        clear hv h2' h3'
        have i1 : (((k : Nat) : Int) == 1) = false := by simp; omega
        have i2 : (((k : Nat) : Int) == 2) = false := by simp; omega
        have i3 : (((k : Nat) : Int) == 3) = false := by simp; omega
        go_enter Tryz.func72, Tryz.ntmps72
        go_wp2_with (first
          | (go_at_call 70; ((with_reducible refine (HA.out _ HT0.out).mono ?_); rintro e w2 ⟨rfl, hb2⟩; have HS2 := Lib.hid (HS.out.below hb2); have HM2 := Lib.hid (HM.out.below hb2); have HB2 := Lib.hid (HB.out.trans (hb2.mono HB.out.size)); clear hb2))
          | (go_at_call 71; ((with_reducible refine (rfailed_calls _ _ _ _ _ 2 _).mono ?_); rintro e w3 ⟨rfl, hb3⟩; have HS3 := Lib.hid ((HS2.out.alloc (.cells #[.int .i64 (k : Int), .string (bs s), .int .i64 m, .bool q, .int .i64 (a : Int)] 71)).below hb3); have HM3 := Lib.hid ((HM2.out.alloc (.cells #[.int .i64 (k : Int), .string (bs s), .int .i64 m, .bool q, .int .i64 (a : Int)] 71)).below hb3); have s0 := HS3.out.c0; have f0 := HS3.out.fr 0; have s1 := HS3.out.c1; have f1 := HS3.out.fr 1; have s2 := HS3.out.c2; have f2 := HS3.out.fr 2; have m0 := HM3.out.c0; have g0 := HM3.out.fr 0; have m1 := HM3.out.c1; have g1 := HM3.out.fr 1; have m2 := HM3.out.c2; have g2 := HM3.out.fr 2; have m3 := HM3.out.c3; have g3 := HM3.out.fr 3; have m4 := HM3.out.c4; have g4 := HM3.out.fr 4; have HB3 := Lib.hid ((HB2.out.alloc HB2.out.size (.cells #[.int .i64 (k : Int), .string (bs s), .int .i64 m, .bool q, .int .i64 (a : Int)] 71)).trans (hb3.mono (Nat.le_trans HB2.out.size (by simp)))); clear hb3)))
        have hm1 := (HM3.out.set (.bool false) (.string ⟨#[]⟩) (.bool false) (.string ⟨#[]⟩) (.int .i64 0)).farIsSt (T2 := w.heap.size + 1 + 1) (by omega) (.int .i64 0) (.int .i64 2) (.int .i64 (a : Int))
        have hs1 := (HS3.out.farIsTm (T2 := w.heap.size + 1) (by omega) (.bool false) (.string ⟨#[]⟩) (.bool false) (.string ⟨#[]⟩) (.int .i64 0)).set (.int .i64 0) (.int .i64 2) (.int .i64 (a : Int))
        have r0 := hs1.c0
        have r1 := hs1.c1
        have r2 := hs1.c2
        have q0 := hm1.c0
        have q1 := hm1.c1
        have q2 := hm1.c2
        have q3 := hm1.c3
        have q4 := hm1.c4
        refine bodyPost_ret (v := .tuple #[.agg #[.bool false, .string ⟨#[]⟩, .bool false, .string ⟨#[]⟩, .int .i64 0], .agg #[.int .i64 0, .int .i64 2, .int .i64 (a : Int)]]) (by simp [results, Tryz.results72, go_sem, r0, r1, r2, q0, q1, q2, q3, q4]) rfl ⟨below_IsSt (below_IsTm HB3.out (by omega) _ _ _ _ _) (by omega) _ _ _, rfl⟩
end Go.Proofs.YtminbdcabacfbaaGreatDoor.V

namespace Go.Proofs.YtminbdcabacfbaaGreatDoor.V
set_option linter.unusedVariables false
open Go.RowKit

theorem int_calls (n : Int) (w : World) : Calls Tryz.prog 94 #[.int .i64 n] w fun e w' => e = .returned (.agg #[.bool false, .string ⟨#[]⟩, .int .i64 n]) ∧ Below w.heap.size w w' := by
  go_enter Tryz.func94, Tryz.ntmps94
  go_wp2
  refine bodyPost_ret (v := .agg #[.bool false, .string ⟨#[]⟩, .int .i64 n]) (by simp [results, Tryz.results94, go_sem]) rfl ⟨rfl, (Below.refl _ _).alloc (Nat.le_refl _) _⟩
end Go.Proofs.YtminbdcabacfbaaGreatDoor.V
