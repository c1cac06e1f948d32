/- The parser's state; (*stream).peek, take, is, operates; (*parser).fail, ok, mark. (*parser).name, term, arity, mark; (*stream).operates: with the parser's two states. (*parser).arity, mark; (*stream).operates. (*parser).some: things with commas between, whatever parses one. -/
import Derived.Test.YtminbdcabacfbaaGreatDoorKLines73
namespace Go.Proofs.YtminbdcabacfbaaGreatDoor.V
set_option linter.unusedVariables false
set_option linter.unusedSimpArgs false
open Go.RowKit

def tokA (t : Tok) (a : Nat) : Value := .agg #[.int .i64 (t.k : Int), .string (bs t.s), .int .i64 t.n, .bool t.q, .int .i64 (a : Int)]

/-- The parser's block, its tokens beside it. -/
structure PS (P : Nat) (L : List TP) (N nx : Nat) (pl bad : Int) (A : Option Addr) (c : Nat) (W : World) : Prop where
  b : W.heap[P]? = some (.cells #[.slice A L.length c, .int .i64 (nx : Int), .int .i64 (N : Int), .int .i64 pl, .int .i64 bad] 68 (0, 0))
  o : W.ownsRow 0 71 5 (.slice A L.length c) L.length (tokCells L)
  n : L.length ≤ 65536
  s : N ≤ 65536
  x : nx ≤ 1000000
section
variable {P : Nat} {L : List TP} {N nx : Nat} {pl bad : Int} {A : Option Addr} {c : Nat} {W W' : World}
theorem PS.c0 (h : PS P L N nx pl bad A c W) : W.cell? ⟨P, 0, none⟩ = some (.slice A L.length c) := cell_of_row W P 0 _ _ _ h.b
theorem PS.c1 (h : PS P L N nx pl bad A c W) : W.cell? ⟨P, 1, none⟩ = some (.int .i64 (nx : Int)) := cell_of_row W P 1 _ _ _ h.b
theorem PS.c2 (h : PS P L N nx pl bad A c W) : W.cell? ⟨P, 2, none⟩ = some (.int .i64 (N : Int)) := cell_of_row W P 2 _ _ _ h.b
theorem PS.c3 (h : PS P L N nx pl bad A c W) : W.cell? ⟨P, 3, none⟩ = some (.int .i64 pl) := cell_of_row W P 3 _ _ _ h.b
theorem PS.c4 (h : PS P L N nx pl bad A c W) : W.cell? ⟨P, 4, none⟩ = some (.int .i64 bad) := cell_of_row W P 4 _ _ _ h.b
theorem PS.fr (h : PS P L N nx pl bad A c W) (i : Nat) : W.frozen? ⟨P, i, none⟩ = false := frozen_of_row W P i _ _ h.b
theorem PS.lt (h : PS P L N nx pl bad A c W) : P < W.heap.size := (Array.getElem?_eq_some_iff.1 h.b).1
theorem PS.ne (h : PS P L N nx pl bad A c W) : some P ≠ Value.ownBlock (.slice A L.length c) := by
  intro he
  rcases h.o.2 with ⟨hv, _⟩ | ⟨g, cap, cur, hv, _, hk, _⟩
  · rw [hv] at he
    cases he
  · rw [hv] at he
    have : P = g := Option.some.inj he
    subst this
    have hb := h.b
    rw [hk] at hb
    simp at hb
theorem PS.grown {row : Option Nat} (h : PS P L N nx pl bad A c W) (hg : W.grownBy W' row) (h1 : some P ≠ row) (h2 : Value.ownBlock (.slice A L.length c) ≠ row) : PS P L N nx pl bad A c W' :=
  ⟨(hg.block P h.lt h1).trans h.b, h.o.kept hg (.inr h2), h.n, h.s, h.x⟩
theorem PS.below (h : PS P L N nx pl bad A c W) (hb : Below W.heap.size W W') : PS P L N nx pl bad A c W' :=
  ⟨(hb.block P h.lt).trans h.b, h.o.kept (grown_below hb none) (by cases A <;> simp [Value.ownBlock]), h.n, h.s, h.x⟩
theorem PS.setNext (h : PS P L N nx pl bad A c W) (m : Nat) (hm : m ≤ 1000000) : PS P L N m pl bad A c (W.setCell ⟨P, 1, none⟩ (.int .i64 (m : Int))) :=
  ⟨set_block h.b _, h.o.kept (grown_set (World.grownBy.refl W (some P)) 1 _) (.inr (Ne.symm h.ne)), h.n, h.s, hm⟩
theorem PS.setBad (h : PS P L N nx pl bad A c W) (a e : Int) : PS P L N nx a e A c ((W.setCell ⟨P, 3, none⟩ (.int .i64 a)).setCell ⟨P, 4, none⟩ (.int .i64 e)) :=
  ⟨set_block (set_block h.b _) _, h.o.kept (grown_set (grown_set (World.grownBy.refl W (some P)) 3 _) 4 _) (.inr (Ne.symm h.ne)), h.n, h.s, h.x⟩
end
theorem PS.old {P T : Nat} {L : List TP} {N nx : Nat} {pl bad : Int} {A : Option Addr} {c : Nat} {W : World} (h : PS P L N nx pl bad A c W) (hA : some T = Value.ownBlock (.slice A L.length c)) : T < W.heap.size := (h.o.lt T hA.symm).2
/-- Another block's turn, of another type. -/
theorem PS.tokSet {P T : Nat} {L : List TP} {N nx : Nat} {pl bad : Int} {A : Option Addr} {c : Nat} {W : World} (h : PS P L N nx pl bad A c W) (hne : P ≠ T) (hA : some T ≠ Value.ownBlock (.slice A L.length c)) (u0 u1 u2 u3 u4 : Value) : PS P L N nx pl bad A c (V.tokSet T u0 u1 u2 u3 u4 W) :=
  h.grown (row := some T) (grown_set (grown_set (grown_set (grown_set (grown_set (World.grownBy.refl W (some T)) _ _) _ _) _ _) _ _) _ _) (by simpa using hne) (Ne.symm hA)
theorem tokCells_at (L : List TP) : ∀ (m j : Nat) (p : TP), L[m]? = some p → j < 5 → (tokCells L)[m * 5 + j]? = (tokC p)[j]? := by
  induction L with
  | nil => intro m j p h; simp at h
  | cons x l ih =>
    intro m j p h hj
    unfold tokCells
    rw [List.flatMap_cons]
    match m with
    | 0 =>
      simp at h
      subst h
      rw [Nat.zero_mul, Nat.zero_add, List.getElem?_append_left (by simp [tokC]; omega)]
    | m + 1 =>
      rw [List.getElem?_append_right (by simp [tokC]; omega)]
      have := ih m j p (by simpa using h) hj
      unfold tokCells at this
      rw [← this]
      congr 1
      simp [tokC]
      omega
theorem pk_in {N : Nat} {L : List TP} {nx i : Nat} {t : Tok} {a : Nat} (hp : pk N (L.drop nx) i = (t, a)) (h : nx + i < L.length) : L[nx + i]? = some (t, a) := by
  unfold pk at hp
  rw [List.getElem?_drop, List.getElem?_eq_getElem h] at hp
  rw [List.getElem?_eq_getElem h]
  simpa using hp
theorem pk_out {N : Nat} {L : List TP} {nx i : Nat} (h : L.length ≤ nx + i) : pk N (L.drop nx) i = eofT N := by
  unfold pk
  rw [List.getElem?_drop, List.getElem?_eq_none h]
  rfl
theorem PS.row {P : Nat} {L : List TP} {N nx : Nat} {pl bad : Int} {A : Option Addr} {c : Nat} {W : World} (h : PS P L N nx pl bad A c W) {m : Nat} {t : Tok} {a : Nat} (hm : L[m]? = some (t, a)) :
    ∃ g, A = some ⟨g, 0, none⟩ ∧ W.cell? ⟨g, m * 5, none⟩ = some (.int .i64 (t.k : Int)) ∧ W.cell? ⟨g, m * 5 + 1, none⟩ = some (.string (bs t.s)) ∧ W.cell? ⟨g, m * 5 + 2, none⟩ = some (.int .i64 t.n) ∧ W.cell? ⟨g, m * 5 + 3, none⟩ = some (.bool t.q) ∧ W.cell? ⟨g, m * 5 + 4, none⟩ = some (.int .i64 (a : Int)) := by
  have ho := h.o
  have hlt : m < L.length := (List.getElem?_eq_some_iff.1 hm).1
  rcases ho.2 with ⟨hv, h0⟩ | ⟨g, cap, cur, hv, _, hk, _, _, _, hcur⟩
  · omega
  · have hA : A = some ⟨g, 0, none⟩ := by injection hv
    refine ⟨g, hA, ?_⟩
    have key : ∀ j u, j < 5 → (tokC (t, a))[j]? = some u → W.cell? ⟨g, m * 5 + j, none⟩ = some u := by
      intro j u hj hu
      rw [cell_of_row W g (m * 5 + j) cur _ _ hk]
      have h2 : cur[m * 5 + j]? = (tokCells L)[m * 5 + j]? := by
        rw [← hcur, List.getElem?_take_of_lt (by omega)]
        simp
      rw [h2, tokCells_at L m j _ hm hj]
      exact hu
    exact ⟨key 0 _ (by omega) rfl, key 1 _ (by omega) rfl, key 2 _ (by omega) rfl, key 3 _ (by omega) rfl, key 4 _ (by omega) rfl⟩

set_option maxRecDepth 100000 in
theorem peek_calls {P : Nat} {L : List TP} {N nx : Nat} {pl bad : Int} {A : Option Addr} {c : Nat} (i : Nat) (t : Tok) (a : Nat) (w : World) (h : PS P L N nx pl bad A c w) (hi : i ≤ 1) (hp : pk N (L.drop nx) i = (t, a)) :
    Calls Tryz.prog 36 #[.pointer (some ⟨P, 0, none⟩), .int .i64 (i : Int)] w fun e w' => e = .returned (tokA t a) ∧ Below w.heap.size w w' := by
  have hg0 := World.grownBy_alloc w (.cells #[.int .i64 0, .string ⟨#[]⟩, .int .i64 0, .bool false, .int .i64 0] 71) none
  have hx := h.x
  have hn := h.n
  have h2 := h.below (below_of_grown hg0)
  have c0 := h2.c0
  have c1 := h2.c1
  have c2 := h2.c2
  have HB := Lib.hid (below_of_grown hg0)
  by_cases hlt : nx + i < L.length
  · have hd : decide ((L.length : Int) ≤ (nx : Int) + (i : Int)) = false := decide_eq_false (by omega)
    obtain ⟨g, rfl, r0, r1, r2, r3, r4⟩ := h2.row (pk_in hp hlt)
    clear h h2 hp hg0
    go_enter Tryz.func36, Tryz.ntmps36
    go_wp2_with fail
    go_region
    go_wp2_with fail
    go_region
    go_wp2_with fail
    refine bodyPost_ret (v := tokA t a) (by simp [results, Tryz.results36, go_sem, tokA]) rfl ⟨rfl, ?_⟩
    exact ((Below.refl w.heap.size w).alloc (Nat.le_refl _) _).drew.drew
  · have hd : decide ((L.length : Int) ≤ (nx : Int) + (i : Int)) = true := decide_eq_true (by omega)
    have HP := Lib.hid (show (t, a) = eofT N by rw [← hp, pk_out (by omega)])
    clear h h2 hp hg0
    go_enter Tryz.func36, Tryz.ntmps36
    go_wp2_with fail
    go_region
    go_wp2_with fail
    refine bodyPost_ret (v := tokA (eofT N).1 (eofT N).2) (by simp [results, Tryz.results36, go_sem, tokA, eofT, bs]) rfl ⟨?_, ?_⟩
    · rw [← HP.out]
    exact ((Below.refl w.heap.size w).alloc (Nat.le_refl _) _).drew
theorem peek0_calls {P : Nat} {L : List TP} {N nx : Nat} {pl bad : Int} {A : Option Addr} {c : Nat} (t : Tok) (a : Nat) (w : World) (h : PS P L N nx pl bad A c w) (hp : pk N (L.drop nx) 0 = (t, a)) :
    Calls Tryz.prog 36 #[.pointer (some ⟨P, 0, none⟩), .int .i64 0] w fun e w' => e = .returned (.agg #[.int .i64 (t.k : Int), .string (bs t.s), .int .i64 t.n, .bool t.q, .int .i64 (a : Int)]) ∧ Below w.heap.size w w' := peek_calls 0 t a w h (by omega) hp
theorem peek1_calls {P : Nat} {L : List TP} {N nx : Nat} {pl bad : Int} {A : Option Addr} {c : Nat} (t : Tok) (a : Nat) (w : World) (h : PS P L N nx pl bad A c w) (hp : pk N (L.drop nx) 1 = (t, a)) :
    Calls Tryz.prog 36 #[.pointer (some ⟨P, 0, none⟩), .int .i64 1] w fun e w' => e = .returned (.agg #[.int .i64 (t.k : Int), .string (bs t.s), .int .i64 t.n, .bool t.q, .int .i64 (a : Int)]) ∧ Below w.heap.size w w' := peek_calls 1 t a w h (by omega) hp

set_option maxRecDepth 100000 in
theorem take_calls {P : Nat} {L : List TP} {N nx : Nat} {pl bad : Int} {A : Option Addr} {c : Nat} (t : Tok) (a : Nat) (w : World) (h : PS P L N nx pl bad A c w) (hx : nx + 1 ≤ 1000000) (hp : pk N (L.drop nx) 0 = (t, a)) :
    Calls Tryz.prog 61 #[.pointer (some ⟨P, 0, none⟩)] w fun e w' => e = .returned (tokA t a) ∧ PS P L N (nx + 1) pl bad A c w' ∧ w.grownBy w' (some P) := by
  have h1 := h.below ((Below.refl w.heap.size w).alloc (Nat.le_refl _) (.cells #[.int .i64 0, .string ⟨#[]⟩, .int .i64 0, .bool false, .int .i64 0] 71))
  have hK := IsTok.new (v0 := .int .i64 0) (v1 := .string ⟨#[]⟩) (v2 := .int .i64 0) (v3 := .bool false) (v4 := .int .i64 0) w
  have H1 := Lib.hid h1
  have H0 := Lib.hid h
  have HK := Lib.hid hK
  have HLT := Lib.hid h.lt
  clear h h1 hK
  go_enter Tryz.func61, Tryz.ntmps61
  go_wp2_with (go_at_call 36; ((with_reducible refine (peek0_calls t a _ H1.out hp).mono ?_); rintro e w1 ⟨rfl, hb⟩; have h1 := H1.out.below hb; have h2 := h1.below ((Below.refl w1.heap.size w1).alloc (Nat.le_refl _) (.cells #[.int .i64 (t.k : Int), .string (bs t.s), .int .i64 t.n, .bool t.q, .int .i64 (a : Int)] 71)); have c1 := h2.c1; have f1 := h2.fr 1; have HB := Lib.hid hb; have hk := HK.out.grown (grown_below hb none) (by simp); have HK1 := Lib.hid hk; have HH1 := Lib.hid h1; have hS := grown_set (World.grownBy.refl (w1.alloc (.cells #[.int .i64 (t.k : Int), .string (bs t.s), .int .i64 t.n, .bool t.q, .int .i64 (a : Int)] 71)) (some P)) 1 (.int .i64 ((nx : Int) + 1)); have hn2 := (IsTok.new (v0 := .int .i64 (t.k : Int)) (v1 := .string (bs t.s)) (v2 := .int .i64 t.n) (v3 := .bool t.q) (v4 := .int .i64 (a : Int)) w1).grown hS (by have := h1.lt; simp; omega); have n0 := hn2.c0; have n1 := hn2.c1; have n2 := hn2.c2; have n3 := hn2.c3; have n4 := hn2.c4; have hk2 := (hk.grown (World.grownBy_alloc _ (.cells #[.int .i64 (t.k : Int), .string (bs t.s), .int .i64 t.n, .bool t.q, .int .i64 (a : Int)] 71) none) (by simp)).grown hS (by have := HLT.out; simp; omega); have HK2 := Lib.hid hk2; have k0 := hk2.c0; have k1 := hk2.c1; have k2 := hk2.c2; have k3 := hk2.c3; have k4 := hk2.c4; have l0 := hk2.fr 0; have l1 := hk2.fr 1; have l2 := hk2.fr 2; have l3 := hk2.fr 3; have l4 := hk2.fr 4; clear hb h1 hk h2 hk2 hn2 hS))
  have hset := HK2.out.set (.int .i64 (t.k : Int)) (.string (bs t.s)) (.int .i64 t.n) (.bool t.q) (.int .i64 (a : Int))
  have r0 := hset.c0; have r1 := hset.c1; have r2 := hset.c2; have r3 := hset.c3; have r4 := hset.c4
  have HP1 := HH1.out.below ((Below.refl w1.heap.size w1).alloc (Nat.le_refl _) (.cells #[.int .i64 (t.k : Int), .string (bs t.s), .int .i64 t.n, .bool t.q, .int .i64 (a : Int)] 71))
  refine bodyPost_ret (v := tokA t a) (by simp [results, Tryz.results61, go_sem, r0, r1, r2, r3, r4, tokA]) rfl ⟨rfl, (HP1.setNext (nx + 1) hx).tokSet (by have := HLT.out; omega) ?_ _ _ _ _ _, ?_⟩
  · exact fun he => Nat.lt_irrefl _ (H0.out.old he)
  · exact grown_tokSet (grown_set (grown_trans (World.grownBy_alloc _ _ _) (grown_trans (grown_below HB.out _) (World.grownBy_alloc _ _ _))) _ _) (Nat.le_refl _) _ _ _ _ _

set_option maxRecDepth 100000 in
theorem is_calls {P : Nat} {L : List TP} {N nx : Nat} {pl bad : Int} {A : Option Addr} {c : Nat} (mb : ByteArray) (v : Bool) (w : World) (h : PS P L N nx pl bad A c w) (hv : isM N (L.drop nx) 0 mb.data.toList = v) :
    Calls Tryz.prog 60 #[.pointer (some ⟨P, 0, none⟩), .string mb] w fun e w' => e = .returned (.bool v) ∧ Below w.heap.size w w' := by
  obtain ⟨⟨t, a⟩, hp⟩ : ∃ p, pk N (L.drop nx) 0 = p := ⟨_, rfl⟩
  unfold isM at hv
  rw [hp] at hv
  have H := Lib.hid h
  have HV := Lib.hid hv
  clear h hv
  cases hk : ((t.k : Int) == 4) with
  | false =>
    have HK := Lib.hid (show (t.k == 4) = false by cases h4 : (t.k == 4) with
      | false => rfl
      | true => simp at h4 hk; omega)
    go_enter Tryz.func60, Tryz.ntmps60
    go_wp2_with (go_at_call 36; ((with_reducible refine (peek0_calls t a _ H.out hp).mono ?_); rintro e w1 ⟨rfl, hb⟩; have HB := Lib.hid hb; clear hb))
    go_ret
    exact ⟨by rw [← HV.out, HK.out]; rfl, HB.out.alloc HB.out.size _⟩
  | true =>
    have HK := Lib.hid (show (t.k == 4) = true by simp at hk ⊢; omega)
    cases hs : ((bs t.s).toList == mb.toList) with
    | false =>
      have HS := Lib.hid (show (t.s == mb.data.toList) = false by rw [← ByteArray.toList_eq, ← bs_list t.s]; exact hs)
      go_enter Tryz.func60, Tryz.ntmps60
      go_wp2_with (go_at_call 36; ((with_reducible refine (peek0_calls t a _ H.out hp).mono ?_); rintro e w1 ⟨rfl, hb⟩; have HB := Lib.hid hb; clear hb))
      go_ret
      exact ⟨by rw [← HV.out, HK.out, HS.out]; rfl, HB.out.alloc HB.out.size _⟩
    | true =>
      have HS := Lib.hid (show (t.s == mb.data.toList) = true by rw [← ByteArray.toList_eq, ← bs_list t.s]; exact hs)
      go_enter Tryz.func60, Tryz.ntmps60
      go_wp2_with (go_at_call 36; ((with_reducible refine (peek0_calls t a _ H.out hp).mono ?_); rintro e w1 ⟨rfl, hb⟩; have HB := Lib.hid hb; clear hb))
      go_ret
      exact ⟨by rw [← HV.out, HK.out, HS.out]; rfl, HB.out.alloc HB.out.size _⟩
theorem pok_calls {P : Nat} {L : List TP} {N nx : Nat} {pl bad : Int} {A : Option Addr} {c : Nat} (v : Bool) (w : World) (h : PS P L N nx pl bad A c w) (hv : (bad == 0) = v) :
    Calls Tryz.prog 33 #[.pointer (some ⟨P, 0, none⟩)] w fun e w' => e = .returned (.bool v) ∧ w = w' := by
  have c4 := h.c4
  clear h
  cases v
  all_goals
    go_enter Tryz.func33, Tryz.ntmps33
    go_wp2
    go_ret
    exact ⟨rfl, rfl⟩
theorem fail_bad_calls {P : Nat} {L : List TP} {N nx : Nat} {pl bad : Int} {A : Option Addr} {c : Nat} (K : Int) (sb : ByteArray) (n : Int) (q : Bool) (a : Int) (e0 : Int) (w : World) (h : PS P L N nx pl bad A c w) (hv : (bad == 0) = false) :
    Calls Tryz.prog 35 #[.pointer (some ⟨P, 0, none⟩), .agg #[.int .i64 K, .string sb, .int .i64 n, .bool q, .int .i64 a], .int .i64 e0] w fun e w' => e = .returned (.tuple #[]) ∧ Below w.heap.size w w' := by
  have h2 := h.below ((Below.refl w.heap.size w).alloc (Nat.le_refl _) (.cells #[.int .i64 K, .string sb, .int .i64 n, .bool q, .int .i64 a] 71))
  have c4 := h2.c4
  clear h h2
  go_enter Tryz.func35, Tryz.ntmps35
  go_wp2_with fail
  go_end0
  exact ⟨rfl, (Below.refl w.heap.size w).alloc (Nat.le_refl _) _⟩
theorem fail_ok_calls {P : Nat} {L : List TP} {N nx : Nat} {pl : Int} {A : Option Addr} {c : Nat} (K : Int) (sb : ByteArray) (n : Int) (q : Bool) (a : Int) (e0 : Int) (w : World) (h : PS P L N nx pl 0 A c w) :
    Calls Tryz.prog 35 #[.pointer (some ⟨P, 0, none⟩), .agg #[.int .i64 K, .string sb, .int .i64 n, .bool q, .int .i64 a], .int .i64 e0] w fun e w' => e = .returned (.tuple #[]) ∧ PS P L N nx a e0 A c w' ∧ w.grownBy w' (some P) := by
  have h2 := h.below ((Below.refl w.heap.size w).alloc (Nat.le_refl _) (.cells #[.int .i64 K, .string sb, .int .i64 n, .bool q, .int .i64 a] 71))
  have c4 := h2.c4
  have c3 := h2.c3
  have f3 := h2.fr 3
  have f4 := h2.fr 4
  have H2 := Lib.hid h2
  clear h h2
  go_enter Tryz.func35, Tryz.ntmps35
  go_wp2_with fail
  go_end0
  exact ⟨rfl, H2.out.setBad _ _, grown_set (grown_set (World.grownBy_alloc _ _ _) _ _) _ _⟩
end Go.Proofs.YtminbdcabacfbaaGreatDoor.V

namespace Go.Proofs.YtminbdcabacfbaaGreatDoor.V
set_option linter.unusedVariables false
set_option linter.unusedSimpArgs false
open Go.RowKit

theorem takeA_calls {P : Nat} {L : List TP} {N nx : Nat} {pl bad : Int} {A : Option Addr} {c : Nat} (K : Int) (k : Nat) (s : List UInt8) (n : Int) (q : Bool) (a : Nat) (w : World) (h : PS P L N nx pl bad A c w) (hx : nx + 1 ≤ 1000000) (hp : pk N (L.drop nx) 0 = (⟨k, s, n, q⟩, a)) (hK : (k : Int) = K) :
    Calls Tryz.prog 61 #[.pointer (some ⟨P, 0, none⟩)] w fun e w' => e = .returned (.agg #[.int .i64 K, .string (bs s), .int .i64 n, .bool q, .int .i64 (a : Int)]) ∧ PS P L N (nx + 1) pl bad A c w' ∧ w.grownBy w' (some P) := by rw [← hK]; exact take_calls _ a w h hx hp

/-- All is well: what is left is r. -/
def PO (P : Nat) (L : List TP) (N : Nat) (A : Option Addr) (c : Nat) (r : List TP) (W : World) : Prop := ∃ nx, nx ≤ L.length ∧ L.drop nx = r ∧ PS P L N nx 0 0 A c W
/-- Something is wrong. -/
def PB (P : Nat) (L : List TP) (N : Nat) (A : Option Addr) (c : Nat) (a e m : Nat) (W : World) : Prop := e ≠ 0 ∧ ∃ nx, nx ≤ m ∧ PS P L N nx (a : Int) (e : Int) A c W
section
variable {P : Nat} {L : List TP} {N : Nat} {A : Option Addr} {c : Nat} {r : List TP} {W W' : World} {a e m m' : Nat}
theorem PO.below (h : PO P L N A c r W) (hb : Below W.heap.size W W') : PO P L N A c r W' := by
  obtain ⟨nx, h1, h2, h3⟩ := h
  exact ⟨nx, h1, h2, h3.below hb⟩
theorem PB.below (h : PB P L N A c a e m W) (hb : Below W.heap.size W W') : PB P L N A c a e m W' := by
  obtain ⟨h0, nx, h1, h3⟩ := h
  exact ⟨h0, nx, h1, h3.below hb⟩
theorem PB.mono (h : PB P L N A c a e m W) (hm : m ≤ m') : PB P L N A c a e m' W := by
  obtain ⟨h0, nx, h1, h3⟩ := h
  exact ⟨h0, nx, by omega, h3⟩
end
/-- The next token is one: there is another place. -/
theorem next_in {L : List TP} {N nx : Nat} {t : Tok} {a : Nat} (hp : pk N (L.drop nx) 0 = (t, a)) (hk : t.k ≠ 0) : nx < L.length := by
  by_cases h : nx < L.length
  · exact h
  · rw [pk_out (by omega)] at hp
    have : t = (eofT N).1 := by rw [hp]
    exact absurd (by rw [this]; rfl) hk

theorem k_yes {k n : Nat} {K m : Int} (hK : (k : Int) = K) (h : (K == m) = true) (hm : m = (n : Int)) : (k == n) = true := by
  simp at h ⊢
  omega
theorem k_no {k n : Nat} {K m : Int} (hK : (k : Int) = K) (h : (K == m) = false) (hm : m = (n : Int)) : (k == n) = false := by
  simp at h ⊢
  omega
/-- A state behind a step that may fail. -/
def PGot {α : Type} (P : Nat) (L : List TP) (N : Nat) (A : Option Addr) (c m : Nat) (g : Par α) (Q : α → Prop) (W : World) : Prop := match g with
  | .bad a e => PB P L N A c a e m W
  | .ok x r => Q x ∧ PO P L N A c r W

/-- A block of a term's five cells. -/
def IsTrm (T : Nat) (v0 v1 v2 v3 v4 : Value) (w : World) : Prop := w.heap[T]? = some (.cells #[v0, v1, v2, v3, v4] 45 (0, 0))
section
variable {T : Nat} {v0 v1 v2 v3 v4 : Value} {w : World}
theorem IsTrm.c0 (h : IsTrm T v0 v1 v2 v3 v4 w) : w.cell? ⟨T, 0, none⟩ = some v0 := cell_of_row w T 0 _ _ _ h
theorem IsTrm.c1 (h : IsTrm T v0 v1 v2 v3 v4 w) : w.cell? ⟨T, 1, none⟩ = some v1 := cell_of_row w T 1 _ _ _ h
theorem IsTrm.c2 (h : IsTrm T v0 v1 v2 v3 v4 w) : w.cell? ⟨T, 2, none⟩ = some v2 := cell_of_row w T 2 _ _ _ h
theorem IsTrm.c3 (h : IsTrm T v0 v1 v2 v3 v4 w) : w.cell? ⟨T, 3, none⟩ = some v3 := cell_of_row w T 3 _ _ _ h
theorem IsTrm.c4 (h : IsTrm T v0 v1 v2 v3 v4 w) : w.cell? ⟨T, 4, none⟩ = some v4 := cell_of_row w T 4 _ _ _ h
theorem IsTrm.fr (h : IsTrm T v0 v1 v2 v3 v4 w) (i : Nat) : w.frozen? ⟨T, i, none⟩ = false := frozen_of_row w T i _ _ h
theorem IsTrm.new (w : World) : IsTrm w.heap.size v0 v1 v2 v3 v4 (w.alloc (.cells #[v0, v1, v2, v3, v4] 45)) := heap_alloc_new w _
theorem IsTrm.grown {w' : World} {row : Option Nat} (h : IsTrm T v0 v1 v2 v3 v4 w) (hg : w.grownBy w' row) (hne : some T ≠ row) : IsTrm T v0 v1 v2 v3 v4 w' := (hg.block T (Array.getElem?_eq_some_iff.1 h).1 hne).trans h
theorem IsTrm.set {T : Nat} {v0 v1 v2 v3 v4 : Value} {w : World} (h : IsTrm T v0 v1 v2 v3 v4 w) (u0 u1 u2 u3 u4 : Value) : IsTrm T u0 u1 u2 u3 u4 (tokSet T u0 u1 u2 u3 u4 w) :=
  set_block (set_block (set_block (set_block (set_block h u0) u1) u2) u3) u4
end
def termA (x : TermL) : Value := .agg #[.bool x.v, .string (bs x.x), .bool x.s, .string (bs x.t), .int .i64 x.n]

-- THE WALKS
set_option maxRecDepth 100000 in
set_option maxHeartbeats 4000000 in
theorem name_calls {P : Nat} {L : List TP} {N : Nat} {A : Option Addr} {c : Nat} {r : List TP} (w : World) (h : PO P L N A c r w) (hmax : ∀ p ∈ L, p.1.s.length ≤ 65536) :
    Calls Tryz.prog 59 #[.pointer (some ⟨P, 0, none⟩)] w fun e w' => w.grownBy w' (some P) ∧ ∃ x, e = .returned (.string (bs x)) ∧ PGot P L N A c 65537 (nameP N r) (fun y => y = x) w' := by
  obtain ⟨nx, hnx, rfl, hS⟩ := h
  obtain ⟨⟨⟨k, s, n, q⟩, a⟩, hp⟩ : ∃ p, pk N (L.drop nx) 0 = p := ⟨_, rfl⟩
  obtain ⟨K, hK⟩ : ∃ K : Int, (k : Int) = K := ⟨_, rfl⟩
  have HK := Lib.hid hK
  have hn := hS.n
  have HN := Lib.hid hn
  have HNX := Lib.hid hnx
  have HS := Lib.hid (fun W (hb : Below w.heap.size w W) => hS.below hb)
  have HX := Lib.hid (show nx + 1 ≤ 1000000 by omega)
  have HP := Lib.hid hp
  have HM := Lib.hid (show (bs s).size ≤ maxLen by
    have : (bs s).size = s.length := by simp [bs, ByteArray.size]
    rw [this]
    by_cases hin : nx < L.length
    · have hm := List.mem_of_getElem? (pk_in hp hin)
      have := hmax _ hm
      simp at this
      unfold maxLen
      omega
    · rw [pk_out (by omega)] at hp
      have : s = [] := by
        have h2 := congrArg (fun p : TP => p.1.s) hp
        exact h2.symm
      rw [this]
      simp [maxLen])
  clear hS hmax hn hK
  cases hk : (K == 1) with
  | false =>
    have hk' : (K != 1) = true := by simpa using hk
    have HT := Lib.hid (k_no (n := 1) HK.out hk rfl)
    have HG := Lib.hid (show nameP N (L.drop nx) = .bad a 2 by
      unfold nameP
      rw [hp]
      simp only [HT.out, Bool.false_and, Bool.false_eq_true, if_false])
    clear hp hnx
    go_enter Tryz.func59, Tryz.ntmps59
    go_wp2_with (first
      | (go_at_call 61; ((with_reducible refine (takeA_calls K k s n q a _ (HS.out _ (by repeat (first | exact Below.refl _ _ | exact (Below.refl _ _).alloc (Nat.le_refl _) _))) HX.out HP.out HK.out).mono ?_); rintro e w1 ⟨rfl, hs1, hg1⟩; have HS1 := Lib.hid hs1; have HG1 := Lib.hid hg1; have h2 := hs1.below ((Below.refl w1.heap.size w1).alloc (Nat.le_refl _) (.cells #[.int .i64 K, .string (bs s), .int .i64 n, .bool q, .int .i64 (a : Int)] 71)); have HS2 := Lib.hid h2; have HK1 := Lib.hid (IsTok.new (v0 := .int .i64 K) (v1 := .string (bs s)) (v2 := .int .i64 n) (v3 := .bool q) (v4 := .int .i64 (a : Int)) w1); clear hs1 hg1 h2))
      | (go_at_call 35; ((with_reducible refine (fail_ok_calls K (bs s) n q a 2 _ HS2.out).mono ?_); rintro e w2 ⟨rfl, hs2, hg2⟩; have HS3 := Lib.hid hs2; have HG2 := Lib.hid hg2; have hk2 := HK1.out.grown hg2 (by have := HS1.out.lt; simp; omega); have HK2 := Lib.hid hk2; have k1 := hk2.c1; clear hs2 hg2 hk2)))
    go_ret
    refine ⟨grown_trans HG1.out (grown_trans (World.grownBy_alloc _ _ _) HG2.out), s, rfl, ?_⟩
    rw [HG.out]
    exact ⟨by omega, nx + 1, by have := HNX.out; have := HN.out; omega, HS3.out⟩
  | true =>
    have hk' : (K != 1) = false := by simpa using hk
    have HT := Lib.hid (k_yes (n := 1) HK.out hk rfl)
    obtain rfl : K = 1 := by simpa using hk
    clear hk hk'
    cases q with
    | true =>
      have HG := Lib.hid (show nameP N (L.drop nx) = .bad a 2 by
        unfold nameP
        rw [hp]
        simp only [Bool.not_true, Bool.and_false, Bool.false_and, Bool.false_eq_true, if_false])
      clear hp hnx
      go_enter Tryz.func59, Tryz.ntmps59
      go_wp2_with (first
        | (go_at_call 61; ((with_reducible refine (takeA_calls 1 k s n true a _ (HS.out _ (by repeat (first | exact Below.refl _ _ | exact (Below.refl _ _).alloc (Nat.le_refl _) _))) HX.out HP.out HK.out).mono ?_); rintro e w1 ⟨rfl, hs1, hg1⟩; have HS1 := Lib.hid hs1; have HG1 := Lib.hid hg1; have h2 := hs1.below ((Below.refl w1.heap.size w1).alloc (Nat.le_refl _) (.cells #[.int .i64 1, .string (bs s), .int .i64 n, .bool true, .int .i64 (a : Int)] 71)); have HS2 := Lib.hid h2; have HK1 := Lib.hid (IsTok.new (v0 := .int .i64 1) (v1 := .string (bs s)) (v2 := .int .i64 n) (v3 := .bool true) (v4 := .int .i64 (a : Int)) w1); clear hs1 hg1 h2))
        | (go_at_call 35; ((with_reducible refine (fail_ok_calls 1 (bs s) n true a 2 _ HS2.out).mono ?_); rintro e w2 ⟨rfl, hs2, hg2⟩; have HS3 := Lib.hid hs2; have HG2 := Lib.hid hg2; have hk2 := HK1.out.grown hg2 (by have := HS1.out.lt; simp; omega); have HK2 := Lib.hid hk2; have k1 := hk2.c1; clear hs2 hg2 hk2)))
      go_ret
      refine ⟨grown_trans HG1.out (grown_trans (World.grownBy_alloc _ _ _) HG2.out), s, rfl, ?_⟩
      rw [HG.out]
      exact ⟨by omega, nx + 1, by have := HNX.out; have := HN.out; omega, HS3.out⟩
    | false =>
      cases hpl : plainL s with
      | false =>
        have HPL := Lib.hid (show plainL (bs s).data.toList = false from hpl)
        have HG := Lib.hid (show nameP N (L.drop nx) = .bad a 2 by
          unfold nameP
          rw [hp]
          simp only [hpl, Bool.and_false, Bool.false_eq_true, if_false])
        clear hp hnx hpl
        go_enter Tryz.func59, Tryz.ntmps59
        go_wp2_with (first
          | (go_at_call 61; ((with_reducible refine (takeA_calls 1 k s n false a _ (HS.out _ (by repeat (first | exact Below.refl _ _ | exact (Below.refl _ _).alloc (Nat.le_refl _) _))) HX.out HP.out HK.out).mono ?_); rintro e w1 ⟨rfl, hs1, hg1⟩; have HS1 := Lib.hid hs1; have HG1 := Lib.hid hg1; have h2 := hs1.below ((Below.refl w1.heap.size w1).alloc (Nat.le_refl _) (.cells #[.int .i64 1, .string (bs s), .int .i64 n, .bool false, .int .i64 (a : Int)] 71)); have HS2 := Lib.hid h2; have HK1 := Lib.hid (IsTok.new (v0 := .int .i64 1) (v1 := .string (bs s)) (v2 := .int .i64 n) (v3 := .bool false) (v4 := .int .i64 (a : Int)) w1); clear hs1 hg1 h2))
          | (go_at_call 35; ((with_reducible refine (fail_ok_calls 1 (bs s) n false a 2 _ HS4.out).mono ?_); rintro e w2 ⟨rfl, hs2, hg2⟩; have HS3 := Lib.hid hs2; have HG2 := Lib.hid hg2; have hk2 := HK3.out.grown hg2 (by have := HS1.out.lt; simp; omega); have HK2 := Lib.hid hk2; have k1 := hk2.c1; clear hs2 hg2 hk2))
          | (go_at_call 76; ((with_reducible refine (plain_calls _ _ HM.out).mono ?_); rintro e w2 ⟨rfl, hb2⟩; rw [HPL.out]; have hk2 := (HK1.out.grown (grown_below hb2 none) (by simp)); have k0 := hk2.c0; have k1 := hk2.c1; have k2 := hk2.c2; have k3 := hk2.c3; have k4 := hk2.c4; have HB2 := Lib.hid hb2; have HS4 := Lib.hid (HS2.out.below hb2); have HK3 := Lib.hid hk2; clear hb2 hk2)))
        go_ret
        refine ⟨grown_trans HG1.out (grown_trans (World.grownBy_alloc _ _ _) (grown_trans (grown_below HB2.out _) HG2.out)), s, rfl, ?_⟩
        rw [HG.out]
        exact ⟨by omega, nx + 1, by have := HNX.out; have := HN.out; omega, HS3.out⟩
      | true =>
        have HPL := Lib.hid (show plainL (bs s).data.toList = true from hpl)
        have HG := Lib.hid (show nameP N (L.drop nx) = .ok s (L.drop nx).tail by
          unfold nameP
          rw [hp]
          simp only [hpl, HT.out, Bool.not_false, Bool.and_self, if_true])
        have HIN := Lib.hid (next_in hp (by show k ≠ 0; have h1 := HT.out; simp at h1; omega))
        clear hp hnx hpl
        go_enter Tryz.func59, Tryz.ntmps59
        go_wp2_with (first
          | (go_at_call 61; ((with_reducible refine (takeA_calls 1 k s n false a _ (HS.out _ (by repeat (first | exact Below.refl _ _ | exact (Below.refl _ _).alloc (Nat.le_refl _) _))) HX.out HP.out HK.out).mono ?_); rintro e w1 ⟨rfl, hs1, hg1⟩; have HS1 := Lib.hid hs1; have HG1 := Lib.hid hg1; have h2 := hs1.below ((Below.refl w1.heap.size w1).alloc (Nat.le_refl _) (.cells #[.int .i64 1, .string (bs s), .int .i64 n, .bool false, .int .i64 (a : Int)] 71)); have HS2 := Lib.hid h2; have HK1 := Lib.hid (IsTok.new (v0 := .int .i64 1) (v1 := .string (bs s)) (v2 := .int .i64 n) (v3 := .bool false) (v4 := .int .i64 (a : Int)) w1); clear hs1 hg1 h2))
          | (go_at_call 76; ((with_reducible refine (plain_calls _ _ HM.out).mono ?_); rintro e w2 ⟨rfl, hb2⟩; rw [HPL.out]; have hk2 := (HK1.out.grown (grown_below hb2 none) (by simp)); have k0 := hk2.c0; have k1 := hk2.c1; have k2 := hk2.c2; have k3 := hk2.c3; have k4 := hk2.c4; have HB2 := Lib.hid hb2; have HS4 := Lib.hid (HS2.out.below hb2); have HK3 := Lib.hid hk2; clear hb2 hk2)))
        go_ret
        refine ⟨grown_trans HG1.out (grown_trans (World.grownBy_alloc _ _ _) (grown_below HB2.out _)), s, rfl, ?_⟩
        rw [HG.out]
        exact ⟨rfl, nx + 1, HIN.out, by rw [List.tail_drop], HS4.out⟩

set_option maxRecDepth 100000 in
set_option maxHeartbeats 8000000 in
theorem term_calls {P : Nat} {L : List TP} {N : Nat} {A : Option Addr} {c : Nat} {r : List TP} (w : World) (h : PO P L N A c r w) :
    Calls Tryz.prog 64 #[.pointer (some ⟨P, 0, none⟩)] w fun e w' => w.grownBy w' (some P) ∧ ∃ x, e = .returned (termA x) ∧ PGot P L N A c 65537 (termP N r) (fun y => y = x) w' := by
  obtain ⟨nx, hnx, rfl, hS⟩ := h
  obtain ⟨⟨⟨k, s, n, q⟩, a⟩, hp⟩ : ∃ p, pk N (L.drop nx) 0 = p := ⟨_, rfl⟩
  obtain ⟨K, hK⟩ : ∃ K : Int, (k : Int) = K := ⟨_, rfl⟩
  have HK := Lib.hid hK
  have hn := hS.n
  have HN := Lib.hid hn
  have HNX := Lib.hid hnx
  have HS := Lib.hid (fun W (hb : Below w.heap.size w W) => hS.below hb)
  have HX := Lib.hid (show nx + 1 ≤ 1000000 by omega)
  have HP := Lib.hid hp
  have HLT := Lib.hid hS.lt
  have HOLD := Lib.hid (fun T (he : some T = Value.ownBlock (.slice A L.length c)) => hS.old he)
  have HZ := Lib.hid (IsTrm.new (v0 := .bool false) (v1 := .string ⟨#[]⟩) (v2 := .bool false) (v3 := .string ⟨#[]⟩) (v4 := .int .i64 0) w)
  clear hS hn hK
  cases h2 : (K == 2) with
  | true =>
    have HT := Lib.hid (k_yes (n := 2) HK.out h2 rfl)
    obtain rfl : K = 2 := by simpa using h2
    clear h2
    have HG := Lib.hid (show termP N (L.drop nx) = (.ok ⟨true, s, false, [], 0⟩ (L.drop nx).tail) by
      unfold termP
      rw [hp]
      simp only [HT.out, if_true])
    have HIN := Lib.hid (next_in hp (by show k ≠ 0; have h1 := HT.out; simp at h1; omega))
    clear hp hnx
    go_enter Tryz.func64, Tryz.ntmps64
    go_wp2_with (first
      | (go_at_call 61; ((with_reducible refine (takeA_calls 2 k s n q a _ (HS.out _ (by repeat (first | exact Below.refl _ _ | exact (Below.refl _ _).alloc (Nat.le_refl _) _))) HX.out HP.out HK.out).mono ?_); rintro e w1 ⟨rfl, hs1, hg1⟩; have HS1 := Lib.hid hs1; have HG1 := Lib.hid hg1; have h2 := hs1.below ((Below.refl w1.heap.size w1).alloc (Nat.le_refl _) (.cells #[.int .i64 2, .string (bs s), .int .i64 n, .bool q, .int .i64 (a : Int)] 71)); have HS2 := Lib.hid h2; have HK1 := Lib.hid (IsTok.new (v0 := .int .i64 2) (v1 := .string (bs s)) (v2 := .int .i64 n) (v3 := .bool q) (v4 := .int .i64 (a : Int)) w1); have HZ1 := Lib.hid ((HZ.out.grown hg1 (by have := HLT.out; simp; omega)).grown (row := none) (World.grownBy_alloc w1 (.cells #[.int .i64 2, .string (bs s), .int .i64 n, .bool q, .int .i64 (a : Int)] 71) none) (by simp)); have z0 := HZ1.out.c0; have z1 := HZ1.out.c1; have z2 := HZ1.out.c2; have z3 := HZ1.out.c3; have z4 := HZ1.out.c4; have y0 := HZ1.out.fr 0; have y1 := HZ1.out.fr 1; have y2 := HZ1.out.fr 2; have y3 := HZ1.out.fr 3; have y4 := HZ1.out.fr 4; clear hs1 hg1 h2)))
    have hset := HZ1.out.set (.bool true) (.string (bs s)) (.bool false) (.string ⟨#[]⟩) (.int .i64 0)
    have r0 := hset.c0; have r1 := hset.c1; have r2 := hset.c2; have r3 := hset.c3; have r4 := hset.c4
    refine bodyPost_ret (v := .agg #[.bool true, .string (bs s), .bool false, .string ⟨#[]⟩, .int .i64 0]) (by simp [results, Tryz.results64, go_sem, r0, r1, r2, r3, r4]) rfl ⟨grown_tokSet (grown_trans (World.grownBy_alloc _ _ _) (grown_trans HG1.out (grown_trans (World.grownBy_alloc _ _ _) (World.grownBy.refl _ _)))) (Nat.le_refl _) _ _ _ _ _, ⟨true, s, false, [], 0⟩, rfl, ?_⟩
    rw [HG.out]
    exact ⟨rfl, nx + 1, HIN.out, by rw [List.tail_drop], HS2.out.tokSet (by have := HLT.out; omega) (fun he => Nat.lt_irrefl _ (HOLD.out _ he)) _ _ _ _ _⟩
  | false =>
    have HT2 := Lib.hid (k_no (n := 2) HK.out h2 rfl)
    cases h3 : (K == 3) with
    | true =>
      have HT := Lib.hid (k_yes (n := 3) HK.out h3 rfl)
      obtain rfl : K = 3 := by simpa using h3
      clear h2 h3
      have HG := Lib.hid (show termP N (L.drop nx) = (.ok ⟨false, [], false, [], n⟩ (L.drop nx).tail) by
        unfold termP
        rw [hp]
        simp only [HT.out, HT2.out, Bool.false_eq_true, if_false, if_true])
      have HIN := Lib.hid (next_in hp (by show k ≠ 0; have h1 := HT.out; simp at h1; omega))
      clear hp hnx
      go_enter Tryz.func64, Tryz.ntmps64
      go_wp2_with (first
        | (go_at_call 61; ((with_reducible refine (takeA_calls 3 k s n q a _ (HS.out _ (by repeat (first | exact Below.refl _ _ | exact (Below.refl _ _).alloc (Nat.le_refl _) _))) HX.out HP.out HK.out).mono ?_); rintro e w1 ⟨rfl, hs1, hg1⟩; have HS1 := Lib.hid hs1; have HG1 := Lib.hid hg1; have h2 := hs1.below ((Below.refl w1.heap.size w1).alloc (Nat.le_refl _) (.cells #[.int .i64 3, .string (bs s), .int .i64 n, .bool q, .int .i64 (a : Int)] 71)); have HS2 := Lib.hid h2; have HK1 := Lib.hid (IsTok.new (v0 := .int .i64 3) (v1 := .string (bs s)) (v2 := .int .i64 n) (v3 := .bool q) (v4 := .int .i64 (a : Int)) w1); have HZ1 := Lib.hid ((HZ.out.grown hg1 (by have := HLT.out; simp; omega)).grown (row := none) (World.grownBy_alloc w1 (.cells #[.int .i64 3, .string (bs s), .int .i64 n, .bool q, .int .i64 (a : Int)] 71) none) (by simp)); have z0 := HZ1.out.c0; have z1 := HZ1.out.c1; have z2 := HZ1.out.c2; have z3 := HZ1.out.c3; have z4 := HZ1.out.c4; have y0 := HZ1.out.fr 0; have y1 := HZ1.out.fr 1; have y2 := HZ1.out.fr 2; have y3 := HZ1.out.fr 3; have y4 := HZ1.out.fr 4; clear hs1 hg1 h2))
        | (go_at_call 94; ((with_reducible refine (int_calls _ _).mono ?_); rintro e w2 ⟨rfl, hb2⟩; have HZ2 := Lib.hid (HZ1.out.grown (grown_below hb2 none) (by simp)); clear z0 z1 z2 z3 z4 y0 y1 y2 y3 y4; have z0 := HZ2.out.c0; have z1 := HZ2.out.c1; have z2 := HZ2.out.c2; have z3 := HZ2.out.c3; have z4 := HZ2.out.c4; have y0 := HZ2.out.fr 0; have y1 := HZ2.out.fr 1; have y2 := HZ2.out.fr 2; have y3 := HZ2.out.fr 3; have y4 := HZ2.out.fr 4; have HB2 := Lib.hid hb2; have HS4 := Lib.hid (HS2.out.below hb2); clear hb2)))
      have hset := HZ2.out.set (.bool false) (.string ⟨#[]⟩) (.bool false) (.string ⟨#[]⟩) (.int .i64 n)
      have r0 := hset.c0; have r1 := hset.c1; have r2 := hset.c2; have r3 := hset.c3; have r4 := hset.c4
      refine bodyPost_ret (v := .agg #[.bool false, .string ⟨#[]⟩, .bool false, .string ⟨#[]⟩, .int .i64 n]) (by simp [results, Tryz.results64, go_sem, r0, r1, r2, r3, r4]) rfl ⟨grown_tokSet (grown_trans (World.grownBy_alloc _ _ _) (grown_trans HG1.out (grown_trans (World.grownBy_alloc _ _ _) (grown_below HB2.out _)))) (Nat.le_refl _) _ _ _ _ _, ⟨false, [], false, [], n⟩, rfl, ?_⟩
      rw [HG.out]
      exact ⟨rfl, nx + 1, HIN.out, by rw [List.tail_drop], HS4.out.tokSet (by have := HLT.out; omega) (fun he => Nat.lt_irrefl _ (HOLD.out _ he)) _ _ _ _ _⟩
    | false =>
      have HT3 := Lib.hid (k_no (n := 3) HK.out h3 rfl)
      cases h1 : (K == 1) with
      | false =>
        have HT1 := Lib.hid (k_no (n := 1) HK.out h1 rfl)
        have HG := Lib.hid (show termP N (L.drop nx) = (.bad a 2) by
          unfold termP
          rw [hp]
          simp only [HT1.out, HT2.out, HT3.out, Bool.false_and, Bool.false_eq_true, if_false])
        clear hp hnx
        go_enter Tryz.func64, Tryz.ntmps64
        go_wp2_with (first
          | (go_at_call 61; ((with_reducible refine (takeA_calls K k s n q a _ (HS.out _ (by repeat (first | exact Below.refl _ _ | exact (Below.refl _ _).alloc (Nat.le_refl _) _))) HX.out HP.out HK.out).mono ?_); rintro e w1 ⟨rfl, hs1, hg1⟩; have HS1 := Lib.hid hs1; have HG1 := Lib.hid hg1; have h2 := hs1.below ((Below.refl w1.heap.size w1).alloc (Nat.le_refl _) (.cells #[.int .i64 K, .string (bs s), .int .i64 n, .bool q, .int .i64 (a : Int)] 71)); have HS2 := Lib.hid h2; have HK1 := Lib.hid (IsTok.new (v0 := .int .i64 K) (v1 := .string (bs s)) (v2 := .int .i64 n) (v3 := .bool q) (v4 := .int .i64 (a : Int)) w1); have HZ1 := Lib.hid ((HZ.out.grown hg1 (by have := HLT.out; simp; omega)).grown (row := none) (World.grownBy_alloc w1 (.cells #[.int .i64 K, .string (bs s), .int .i64 n, .bool q, .int .i64 (a : Int)] 71) none) (by simp)); have z0 := HZ1.out.c0; have z1 := HZ1.out.c1; have z2 := HZ1.out.c2; have z3 := HZ1.out.c3; have z4 := HZ1.out.c4; have y0 := HZ1.out.fr 0; have y1 := HZ1.out.fr 1; have y2 := HZ1.out.fr 2; have y3 := HZ1.out.fr 3; have y4 := HZ1.out.fr 4; clear hs1 hg1 h2))
          | (go_at_call 35; ((with_reducible refine (fail_ok_calls K (bs s) n q a 2 _ HS2.out).mono ?_); rintro e w2 ⟨rfl, hs2, hg2⟩; have HS3 := Lib.hid hs2; have HG2 := Lib.hid hg2; have hk2 := HK1.out.grown hg2 (by have := HS1.out.lt; simp; omega); have HK2 := Lib.hid hk2; have HZ2 := Lib.hid (HZ1.out.grown hg2 (by have := HLT.out; simp; omega)); clear z0 z1 z2 z3 z4 y0 y1 y2 y3 y4; have z0 := HZ2.out.c0; have z1 := HZ2.out.c1; have z2 := HZ2.out.c2; have z3 := HZ2.out.c3; have z4 := HZ2.out.c4; have y0 := HZ2.out.fr 0; have y1 := HZ2.out.fr 1; have y2 := HZ2.out.fr 2; have y3 := HZ2.out.fr 3; have y4 := HZ2.out.fr 4; clear hs2 hg2 hk2)))
        have hset := HZ2.out.set (.bool false) (.string ⟨#[]⟩) (.bool false) (.string ⟨#[]⟩) (.int .i64 0)
        have r0 := hset.c0; have r1 := hset.c1; have r2 := hset.c2; have r3 := hset.c3; have r4 := hset.c4
        refine bodyPost_ret (v := .agg #[.bool false, .string ⟨#[]⟩, .bool false, .string ⟨#[]⟩, .int .i64 0]) (by simp [results, Tryz.results64, go_sem, r0, r1, r2, r3, r4]) rfl ⟨grown_tokSet (grown_trans (World.grownBy_alloc _ _ _) (grown_trans HG1.out (grown_trans (World.grownBy_alloc _ _ _) HG2.out))) (Nat.le_refl _) _ _ _ _ _, term0, rfl, ?_⟩
        rw [HG.out]
        exact ⟨by omega, nx + 1, by have := HNX.out; have := HN.out; omega, HS3.out.tokSet (by have := HLT.out; omega) (fun he => Nat.lt_irrefl _ (HOLD.out _ he)) _ _ _ _ _⟩
      | true =>
        have HT := Lib.hid (k_yes (n := 1) HK.out h1 rfl)
        obtain rfl : K = 1 := by simpa using h1
        clear h1 h2 h3
        cases q with
        | true =>
          have HG := Lib.hid (show termP N (L.drop nx) = (.ok ⟨false, [], true, s, 0⟩ (L.drop nx).tail) by
            unfold termP
            rw [hp]
            simp only [HT.out, HT2.out, HT3.out, Bool.true_or, Bool.and_self, Bool.false_eq_true, if_false, if_true])
          have HIN := Lib.hid (next_in hp (by show k ≠ 0; have h1 := HT.out; simp at h1; omega))
          clear hp hnx
          go_enter Tryz.func64, Tryz.ntmps64
          go_wp2_with (first
            | (go_at_call 61; ((with_reducible refine (takeA_calls 1 k s n true a _ (HS.out _ (by repeat (first | exact Below.refl _ _ | exact (Below.refl _ _).alloc (Nat.le_refl _) _))) HX.out HP.out HK.out).mono ?_); rintro e w1 ⟨rfl, hs1, hg1⟩; have HS1 := Lib.hid hs1; have HG1 := Lib.hid hg1; have h2 := hs1.below ((Below.refl w1.heap.size w1).alloc (Nat.le_refl _) (.cells #[.int .i64 1, .string (bs s), .int .i64 n, .bool true, .int .i64 (a : Int)] 71)); have HS2 := Lib.hid h2; have HK1 := Lib.hid (IsTok.new (v0 := .int .i64 1) (v1 := .string (bs s)) (v2 := .int .i64 n) (v3 := .bool true) (v4 := .int .i64 (a : Int)) w1); have HZ1 := Lib.hid ((HZ.out.grown hg1 (by have := HLT.out; simp; omega)).grown (row := none) (World.grownBy_alloc w1 (.cells #[.int .i64 1, .string (bs s), .int .i64 n, .bool true, .int .i64 (a : Int)] 71) none) (by simp)); have z0 := HZ1.out.c0; have z1 := HZ1.out.c1; have z2 := HZ1.out.c2; have z3 := HZ1.out.c3; have z4 := HZ1.out.c4; have y0 := HZ1.out.fr 0; have y1 := HZ1.out.fr 1; have y2 := HZ1.out.fr 2; have y3 := HZ1.out.fr 3; have y4 := HZ1.out.fr 4; clear hs1 hg1 h2))
            | (go_at_call 95; ((with_reducible refine (sym_calls _ _).mono ?_); rintro e w2 ⟨rfl, hb2⟩; have HZ2 := Lib.hid (HZ1.out.grown (grown_below hb2 none) (by simp)); clear z0 z1 z2 z3 z4 y0 y1 y2 y3 y4; have z0 := HZ2.out.c0; have z1 := HZ2.out.c1; have z2 := HZ2.out.c2; have z3 := HZ2.out.c3; have z4 := HZ2.out.c4; have y0 := HZ2.out.fr 0; have y1 := HZ2.out.fr 1; have y2 := HZ2.out.fr 2; have y3 := HZ2.out.fr 3; have y4 := HZ2.out.fr 4; have HB2 := Lib.hid hb2; have HS4 := Lib.hid (HS2.out.below hb2); clear hb2)))
          have hset := HZ2.out.set (.bool false) (.string ⟨#[]⟩) (.bool true) (.string (bs s)) (.int .i64 0)
          have r0 := hset.c0; have r1 := hset.c1; have r2 := hset.c2; have r3 := hset.c3; have r4 := hset.c4
          refine bodyPost_ret (v := .agg #[.bool false, .string ⟨#[]⟩, .bool true, .string (bs s), .int .i64 0]) (by simp [results, Tryz.results64, go_sem, r0, r1, r2, r3, r4]) rfl ⟨grown_tokSet (grown_trans (World.grownBy_alloc _ _ _) (grown_trans HG1.out (grown_trans (World.grownBy_alloc _ _ _) (grown_below HB2.out _)))) (Nat.le_refl _) _ _ _ _ _, ⟨false, [], true, s, 0⟩, rfl, ?_⟩
          rw [HG.out]
          exact ⟨rfl, nx + 1, HIN.out, by rw [List.tail_drop], HS4.out.tokSet (by have := HLT.out; omega) (fun he => Nat.lt_irrefl _ (HOLD.out _ he)) _ _ _ _ _⟩
        | false =>
          cases hs : ((bs s).toList == [110, 111, 116]) with
          | true =>
            have HNOT := Lib.hid (show (s == notL) = true by rw [← bs_list s]; exact hs)
            have hs' : ((bs s).toList != [110, 111, 116]) = false := by simpa using hs
            have HG := Lib.hid (show termP N (L.drop nx) = (.bad a 2) by
              unfold termP
              rw [hp]
              simp only [HT.out, HT2.out, HT3.out, HNOT.out, Bool.not_true, Bool.false_or, Bool.and_false, Bool.false_eq_true, if_false])
            clear hp hnx
            go_enter Tryz.func64, Tryz.ntmps64
            go_wp2_with (first
              | (go_at_call 61; ((with_reducible refine (takeA_calls 1 k s n false a _ (HS.out _ (by repeat (first | exact Below.refl _ _ | exact (Below.refl _ _).alloc (Nat.le_refl _) _))) HX.out HP.out HK.out).mono ?_); rintro e w1 ⟨rfl, hs1, hg1⟩; have HS1 := Lib.hid hs1; have HG1 := Lib.hid hg1; have h2 := hs1.below ((Below.refl w1.heap.size w1).alloc (Nat.le_refl _) (.cells #[.int .i64 1, .string (bs s), .int .i64 n, .bool false, .int .i64 (a : Int)] 71)); have HS2 := Lib.hid h2; have HK1 := Lib.hid (IsTok.new (v0 := .int .i64 1) (v1 := .string (bs s)) (v2 := .int .i64 n) (v3 := .bool false) (v4 := .int .i64 (a : Int)) w1); have HZ1 := Lib.hid ((HZ.out.grown hg1 (by have := HLT.out; simp; omega)).grown (row := none) (World.grownBy_alloc w1 (.cells #[.int .i64 1, .string (bs s), .int .i64 n, .bool false, .int .i64 (a : Int)] 71) none) (by simp)); have z0 := HZ1.out.c0; have z1 := HZ1.out.c1; have z2 := HZ1.out.c2; have z3 := HZ1.out.c3; have z4 := HZ1.out.c4; have y0 := HZ1.out.fr 0; have y1 := HZ1.out.fr 1; have y2 := HZ1.out.fr 2; have y3 := HZ1.out.fr 3; have y4 := HZ1.out.fr 4; clear hs1 hg1 h2))
              | (go_at_call 35; ((with_reducible refine (fail_ok_calls 1 (bs s) n false a 2 _ HS2.out).mono ?_); rintro e w2 ⟨rfl, hs2, hg2⟩; have HS3 := Lib.hid hs2; have HG2 := Lib.hid hg2; have hk2 := HK1.out.grown hg2 (by have := HS1.out.lt; simp; omega); have HK2 := Lib.hid hk2; have HZ2 := Lib.hid (HZ1.out.grown hg2 (by have := HLT.out; simp; omega)); clear z0 z1 z2 z3 z4 y0 y1 y2 y3 y4; have z0 := HZ2.out.c0; have z1 := HZ2.out.c1; have z2 := HZ2.out.c2; have z3 := HZ2.out.c3; have z4 := HZ2.out.c4; have y0 := HZ2.out.fr 0; have y1 := HZ2.out.fr 1; have y2 := HZ2.out.fr 2; have y3 := HZ2.out.fr 3; have y4 := HZ2.out.fr 4; clear hs2 hg2 hk2)))
            have hset := HZ2.out.set (.bool false) (.string ⟨#[]⟩) (.bool false) (.string ⟨#[]⟩) (.int .i64 0)
            have r0 := hset.c0; have r1 := hset.c1; have r2 := hset.c2; have r3 := hset.c3; have r4 := hset.c4
            refine bodyPost_ret (v := .agg #[.bool false, .string ⟨#[]⟩, .bool false, .string ⟨#[]⟩, .int .i64 0]) (by simp [results, Tryz.results64, go_sem, r0, r1, r2, r3, r4]) rfl ⟨grown_tokSet (grown_trans (World.grownBy_alloc _ _ _) (grown_trans HG1.out (grown_trans (World.grownBy_alloc _ _ _) HG2.out))) (Nat.le_refl _) _ _ _ _ _, term0, rfl, ?_⟩
            rw [HG.out]
            exact ⟨by omega, nx + 1, by have := HNX.out; have := HN.out; omega, HS3.out.tokSet (by have := HLT.out; omega) (fun he => Nat.lt_irrefl _ (HOLD.out _ he)) _ _ _ _ _⟩
          | false =>
            have HNOT := Lib.hid (show (s == notL) = false by rw [← bs_list s]; exact hs)
            have hs' : ((bs s).toList != [110, 111, 116]) = true := by simpa using hs
            have HG := Lib.hid (show termP N (L.drop nx) = (.ok ⟨false, [], true, s, 0⟩ (L.drop nx).tail) by
              unfold termP
              rw [hp]
              simp only [HT.out, HT2.out, HT3.out, HNOT.out, Bool.not_false, Bool.false_or, Bool.and_self, Bool.false_eq_true, if_false, if_true])
            have HIN := Lib.hid (next_in hp (by show k ≠ 0; have h1 := HT.out; simp at h1; omega))
            clear hp hnx
            go_enter Tryz.func64, Tryz.ntmps64
            go_wp2_with (first
              | (go_at_call 61; ((with_reducible refine (takeA_calls 1 k s n false a _ (HS.out _ (by repeat (first | exact Below.refl _ _ | exact (Below.refl _ _).alloc (Nat.le_refl _) _))) HX.out HP.out HK.out).mono ?_); rintro e w1 ⟨rfl, hs1, hg1⟩; have HS1 := Lib.hid hs1; have HG1 := Lib.hid hg1; have h2 := hs1.below ((Below.refl w1.heap.size w1).alloc (Nat.le_refl _) (.cells #[.int .i64 1, .string (bs s), .int .i64 n, .bool false, .int .i64 (a : Int)] 71)); have HS2 := Lib.hid h2; have HK1 := Lib.hid (IsTok.new (v0 := .int .i64 1) (v1 := .string (bs s)) (v2 := .int .i64 n) (v3 := .bool false) (v4 := .int .i64 (a : Int)) w1); have HZ1 := Lib.hid ((HZ.out.grown hg1 (by have := HLT.out; simp; omega)).grown (row := none) (World.grownBy_alloc w1 (.cells #[.int .i64 1, .string (bs s), .int .i64 n, .bool false, .int .i64 (a : Int)] 71) none) (by simp)); have z0 := HZ1.out.c0; have z1 := HZ1.out.c1; have z2 := HZ1.out.c2; have z3 := HZ1.out.c3; have z4 := HZ1.out.c4; have y0 := HZ1.out.fr 0; have y1 := HZ1.out.fr 1; have y2 := HZ1.out.fr 2; have y3 := HZ1.out.fr 3; have y4 := HZ1.out.fr 4; clear hs1 hg1 h2))
              | (go_at_call 95; ((with_reducible refine (sym_calls _ _).mono ?_); rintro e w2 ⟨rfl, hb2⟩; have HZ2 := Lib.hid (HZ1.out.grown (grown_below hb2 none) (by simp)); clear z0 z1 z2 z3 z4 y0 y1 y2 y3 y4; have z0 := HZ2.out.c0; have z1 := HZ2.out.c1; have z2 := HZ2.out.c2; have z3 := HZ2.out.c3; have z4 := HZ2.out.c4; have y0 := HZ2.out.fr 0; have y1 := HZ2.out.fr 1; have y2 := HZ2.out.fr 2; have y3 := HZ2.out.fr 3; have y4 := HZ2.out.fr 4; have HB2 := Lib.hid hb2; have HS4 := Lib.hid (HS2.out.below hb2); clear hb2)))
            have hset := HZ2.out.set (.bool false) (.string ⟨#[]⟩) (.bool true) (.string (bs s)) (.int .i64 0)
            have r0 := hset.c0; have r1 := hset.c1; have r2 := hset.c2; have r3 := hset.c3; have r4 := hset.c4
            refine bodyPost_ret (v := .agg #[.bool false, .string ⟨#[]⟩, .bool true, .string (bs s), .int .i64 0]) (by simp [results, Tryz.results64, go_sem, r0, r1, r2, r3, r4]) rfl ⟨grown_tokSet (grown_trans (World.grownBy_alloc _ _ _) (grown_trans HG1.out (grown_trans (World.grownBy_alloc _ _ _) (grown_below HB2.out _)))) (Nat.le_refl _) _ _ _ _ _, ⟨false, [], true, s, 0⟩, rfl, ?_⟩
            rw [HG.out]
            exact ⟨rfl, nx + 1, HIN.out, by rw [List.tail_drop], HS4.out.tokSet (by have := HLT.out; omega) (fun he => Nat.lt_irrefl _ (HOLD.out _ he)) _ _ _ _ _⟩
end Go.Proofs.YtminbdcabacfbaaGreatDoor.V

namespace Go.Proofs.YtminbdcabacfbaaGreatDoor.V
set_option linter.unusedVariables false
set_option linter.unusedSimpArgs false
open Go.RowKit

set_option maxRecDepth 100000 in
set_option maxHeartbeats 4000000 in
theorem arity_calls {P : Nat} {L : List TP} {N : Nat} {A : Option Addr} {c : Nat} {r : List TP} (w : World) (h : PO P L N A c r w) :
    Calls Tryz.prog 86 #[.pointer (some ⟨P, 0, none⟩)] w fun e w' => w.grownBy w' (some P) ∧ ∃ x, e = .returned (.int .i64 x) ∧ PGot P L N A c 65537 (arityP N r) (fun y => y = x) w' := by
  obtain ⟨nx, hnx, rfl, hS⟩ := h
  obtain ⟨⟨⟨k, s, n, q⟩, a⟩, hp⟩ : ∃ p, pk N (L.drop nx) 0 = p := ⟨_, rfl⟩
  obtain ⟨K, hK⟩ : ∃ K : Int, (k : Int) = K := ⟨_, rfl⟩
  have HK := Lib.hid hK
  have hn := hS.n
  have HN := Lib.hid hn
  have HNX := Lib.hid hnx
  have HS := Lib.hid (fun W (hb : Below w.heap.size w W) => hS.below hb)
  have HX := Lib.hid (show nx + 1 ≤ 1000000 by omega)
  have HP := Lib.hid hp
  clear hS hn hK
  cases h3 : (K == 3) with
  | false =>
    have h3' : (K != 3) = true := by simpa using h3
    have HT := Lib.hid (k_no (n := 3) HK.out h3 rfl)
    have HG := Lib.hid (show arityP N (L.drop nx) = (.bad a 2) by
      unfold arityP
      rw [hp]
      simp only [HT.out, Bool.false_eq_true, if_false])
    clear hp hnx
    go_enter Tryz.func86, Tryz.ntmps86
    go_wp2_with (first
      | (go_at_call 61; ((with_reducible refine (takeA_calls K k s n q a _ (HS.out _ (by repeat (first | exact Below.refl _ _ | exact (Below.refl _ _).alloc (Nat.le_refl _) _))) HX.out HP.out HK.out).mono ?_); rintro e w1 ⟨rfl, hs1, hg1⟩; have HS1 := Lib.hid hs1; have HG1 := Lib.hid hg1; have h2 := hs1.below ((Below.refl w1.heap.size w1).alloc (Nat.le_refl _) (.cells #[.int .i64 K, .string (bs s), .int .i64 n, .bool q, .int .i64 (a : Int)] 71)); have HS2 := Lib.hid h2; have HK1 := Lib.hid (IsTok.new (v0 := .int .i64 K) (v1 := .string (bs s)) (v2 := .int .i64 n) (v3 := .bool q) (v4 := .int .i64 (a : Int)) w1); clear hs1 hg1 h2))
      | (go_at_call 35; ((with_reducible refine (fail_ok_calls K (bs s) n q a 2 _ HS2.out).mono ?_); rintro e w2 ⟨rfl, hs2, hg2⟩; have HS3 := Lib.hid hs2; have HG2 := Lib.hid hg2; have hk2 := HK1.out.grown hg2 (by have := HS1.out.lt; simp; omega); have HK2 := Lib.hid hk2; have k2 := hk2.c2; clear hs2 hg2 hk2)))
    go_ret
    refine ⟨grown_trans HG1.out (grown_trans (World.grownBy_alloc _ _ _) HG2.out), n, rfl, ?_⟩
    rw [HG.out]
    exact ⟨by omega, nx + 1, by have := HNX.out; have := HN.out; omega, HS3.out⟩
  | true =>
    have HT := Lib.hid (k_yes (n := 3) HK.out h3 rfl)
    obtain rfl : K = 3 := by simpa using h3
    clear h3
    cases hl : decide (n < 0) with
    | true =>
      have HG := Lib.hid (show arityP N (L.drop nx) = (.bad a 4) by
        unfold arityP
        rw [hp]
        simp only [HT.out, hl, Bool.true_or, if_true])
      clear hp hnx
      go_enter Tryz.func86, Tryz.ntmps86
      go_wp2_with (first
        | (go_at_call 61; ((with_reducible refine (takeA_calls 3 k s n q a _ (HS.out _ (by repeat (first | exact Below.refl _ _ | exact (Below.refl _ _).alloc (Nat.le_refl _) _))) HX.out HP.out HK.out).mono ?_); rintro e w1 ⟨rfl, hs1, hg1⟩; have HS1 := Lib.hid hs1; have HG1 := Lib.hid hg1; have h2 := hs1.below ((Below.refl w1.heap.size w1).alloc (Nat.le_refl _) (.cells #[.int .i64 3, .string (bs s), .int .i64 n, .bool q, .int .i64 (a : Int)] 71)); have HS2 := Lib.hid h2; have HK1 := Lib.hid (IsTok.new (v0 := .int .i64 3) (v1 := .string (bs s)) (v2 := .int .i64 n) (v3 := .bool q) (v4 := .int .i64 (a : Int)) w1); clear hs1 hg1 h2))
        | (go_at_call 35; ((with_reducible refine (fail_ok_calls 3 (bs s) n q a 4 _ HS2.out).mono ?_); rintro e w2 ⟨rfl, hs2, hg2⟩; have HS3 := Lib.hid hs2; have HG2 := Lib.hid hg2; have hk2 := HK1.out.grown hg2 (by have := HS1.out.lt; simp; omega); have HK2 := Lib.hid hk2; have k2 := hk2.c2; clear hs2 hg2 hk2)))
      go_ret
      refine ⟨grown_trans HG1.out (grown_trans (World.grownBy_alloc _ _ _) HG2.out), n, rfl, ?_⟩
      rw [HG.out]
      exact ⟨by omega, nx + 1, by have := HNX.out; have := HN.out; omega, HS3.out⟩
    | false =>
      cases hm : decide (6 < n) with
      | true =>
        have HG := Lib.hid (show arityP N (L.drop nx) = (.bad a 4) by
          unfold arityP
          rw [hp]
          simp only [HT.out, hl, hm, Bool.or_true, if_true])
        clear hp hnx
        go_enter Tryz.func86, Tryz.ntmps86
        go_wp2_with (first
          | (go_at_call 61; ((with_reducible refine (takeA_calls 3 k s n q a _ (HS.out _ (by repeat (first | exact Below.refl _ _ | exact (Below.refl _ _).alloc (Nat.le_refl _) _))) HX.out HP.out HK.out).mono ?_); rintro e w1 ⟨rfl, hs1, hg1⟩; have HS1 := Lib.hid hs1; have HG1 := Lib.hid hg1; have h2 := hs1.below ((Below.refl w1.heap.size w1).alloc (Nat.le_refl _) (.cells #[.int .i64 3, .string (bs s), .int .i64 n, .bool q, .int .i64 (a : Int)] 71)); have HS2 := Lib.hid h2; have HK1 := Lib.hid (IsTok.new (v0 := .int .i64 3) (v1 := .string (bs s)) (v2 := .int .i64 n) (v3 := .bool q) (v4 := .int .i64 (a : Int)) w1); clear hs1 hg1 h2))
          | (go_at_call 35; ((with_reducible refine (fail_ok_calls 3 (bs s) n q a 4 _ HS2.out).mono ?_); rintro e w2 ⟨rfl, hs2, hg2⟩; have HS3 := Lib.hid hs2; have HG2 := Lib.hid hg2; have hk2 := HK1.out.grown hg2 (by have := HS1.out.lt; simp; omega); have HK2 := Lib.hid hk2; have k2 := hk2.c2; clear hs2 hg2 hk2)))
        go_ret
        refine ⟨grown_trans HG1.out (grown_trans (World.grownBy_alloc _ _ _) HG2.out), n, rfl, ?_⟩
        rw [HG.out]
        exact ⟨by omega, nx + 1, by have := HNX.out; have := HN.out; omega, HS3.out⟩
      | false =>
        have HG := Lib.hid (show arityP N (L.drop nx) = (.ok n (L.drop nx).tail) by
          unfold arityP
          rw [hp]
          simp only [HT.out, hl, hm, Bool.or_self, Bool.false_eq_true, if_true, if_false])
        have HIN := Lib.hid (next_in hp (by show k ≠ 0; have h1 := HT.out; simp at h1; omega))
        clear hp hnx
        go_enter Tryz.func86, Tryz.ntmps86
        go_wp2_with (first
          | (go_at_call 61; ((with_reducible refine (takeA_calls 3 k s n q a _ (HS.out _ (by repeat (first | exact Below.refl _ _ | exact (Below.refl _ _).alloc (Nat.le_refl _) _))) HX.out HP.out HK.out).mono ?_); rintro e w1 ⟨rfl, hs1, hg1⟩; have HS1 := Lib.hid hs1; have HG1 := Lib.hid hg1; have h2 := hs1.below ((Below.refl w1.heap.size w1).alloc (Nat.le_refl _) (.cells #[.int .i64 3, .string (bs s), .int .i64 n, .bool q, .int .i64 (a : Int)] 71)); have HS2 := Lib.hid h2; have HK1 := Lib.hid (IsTok.new (v0 := .int .i64 3) (v1 := .string (bs s)) (v2 := .int .i64 n) (v3 := .bool q) (v4 := .int .i64 (a : Int)) w1); clear hs1 hg1 h2)))
        go_ret
        refine ⟨grown_trans HG1.out (World.grownBy_alloc _ _ _), n, rfl, ?_⟩
        rw [HG.out]
        exact ⟨rfl, nx + 1, HIN.out, by rw [List.tail_drop], HS2.out⟩

set_option maxRecDepth 100000 in
set_option maxHeartbeats 4000000 in
theorem mark_ok_calls {P : Nat} {L : List TP} {N : Nat} {A : Option Addr} {c : Nat} {r : List TP} (mb : ByteArray) (w : World) (h : PO P L N A c r w) (hm4 : 4 ≤ 4) :
    Calls Tryz.prog 65 #[.pointer (some ⟨P, 0, none⟩), .string mb] w fun e w' => e = .returned (.tuple #[]) ∧ w.grownBy w' (some P) ∧ PGot P L N A c 65537 (markP N mb.data.toList () r) (fun _ => True) w' := by
  obtain ⟨nx, hnx, rfl, hS⟩ := h
  obtain ⟨⟨⟨k, s, n, q⟩, a⟩, hp⟩ : ∃ p, pk N (L.drop nx) 0 = p := ⟨_, rfl⟩
  have hn := hS.n
  have HN := Lib.hid hn
  have HNX := Lib.hid hnx
  have HS := Lib.hid (fun W (hb : Below w.heap.size w W) => hS.below hb)
  have HX := Lib.hid (show nx + 1 ≤ 1000000 by omega)
  have HP := Lib.hid hp
  clear hS hn
  cases hv : isM N (L.drop nx) 0 mb.data.toList with
  | true =>
    have HV := Lib.hid hv
    have HG := Lib.hid (show markP N mb.data.toList () (L.drop nx) = .ok () (L.drop nx).tail by unfold markP; rw [hv]; rfl)
    have HIN := Lib.hid (next_in hp (by
      unfold isM at hv
      rw [hp] at hv
      simp only [Bool.and_eq_true, beq_iff_eq] at hv
      show k ≠ 0
      have h1 : k = 4 := hv.1
      omega))
    clear hv hp hnx
    go_enter Tryz.func65, Tryz.ntmps65
    go_wp2_with (first
      | (go_at_call 60; ((with_reducible refine (is_calls mb true _ (HS.out _ (Below.refl _ _)) HV.out).mono ?_); rintro e w1 ⟨rfl, hb1⟩; have HS1 := Lib.hid (HS.out _ hb1); have HB1 := Lib.hid hb1; clear hb1))
      | (go_at_call 61; ((with_reducible refine (takeA_calls _ k s n q a _ HS1.out HX.out HP.out rfl).mono ?_); rintro e w4 ⟨rfl, hs4, hg4⟩; have HS4 := Lib.hid hs4; have HG4 := Lib.hid hg4; clear hs4 hg4)))
    go_end0
    refine ⟨rfl, grown_trans (grown_below HB1.out _) HG4.out, ?_⟩
    rw [HG.out]
    exact ⟨trivial, nx + 1, HIN.out, by rw [List.tail_drop], HS4.out⟩
  | false =>
    have HV := Lib.hid hv
    have HG := Lib.hid (show markP N mb.data.toList () (L.drop nx) = .bad a 2 by unfold markP; rw [hv, hp]; rfl)
    clear hv hp hnx
    go_enter Tryz.func65, Tryz.ntmps65
    go_wp2_with (first
      | (go_at_call 60; ((with_reducible refine (is_calls mb false _ (HS.out _ (Below.refl _ _)) HV.out).mono ?_); rintro e w1 ⟨rfl, hb1⟩; have HS1 := Lib.hid (HS.out _ hb1); have HB1 := Lib.hid hb1; clear hb1))
      | (go_at_call 36; ((with_reducible refine (peek0_calls ⟨k, s, n, q⟩ a _ HS1.out HP.out).mono ?_); rintro e w2 ⟨rfl, hb2⟩; have HS2 := Lib.hid (HS1.out.below hb2); have HB2 := Lib.hid hb2; clear hb2))
      | (go_at_call 35; ((with_reducible refine (fail_ok_calls _ (bs s) n q a 2 _ HS2.out).mono ?_); rintro e w3 ⟨rfl, hs3, hg3⟩; have HS3 := Lib.hid hs3; have HG3 := Lib.hid hg3; clear hs3 hg3))
      | (go_at_call 61; ((with_reducible refine (takeA_calls _ k s n q a _ HS3.out HX.out HP.out rfl).mono ?_); rintro e w4 ⟨rfl, hs4, hg4⟩; have HS4 := Lib.hid hs4; have HG4 := Lib.hid hg4; clear hs4 hg4)))
    go_end0
    refine ⟨rfl, grown_trans (grown_below HB1.out _) (grown_trans (grown_below HB2.out _) (grown_trans HG3.out HG4.out)), ?_⟩
    rw [HG.out]
    exact ⟨by omega, nx + 1, by have := HNX.out; have := HN.out; omega, HS4.out⟩

set_option maxRecDepth 100000 in
set_option maxHeartbeats 4000000 in
theorem mark_bad_calls {P : Nat} {L : List TP} {N : Nat} {A : Option Addr} {c a0 e0 m : Nat} (mb : ByteArray) (w : World) (h : PB P L N A c a0 e0 m w) (hm : m + 1 ≤ 1000000) :
    Calls Tryz.prog 65 #[.pointer (some ⟨P, 0, none⟩), .string mb] w fun e w' => e = .returned (.tuple #[]) ∧ w.grownBy w' (some P) ∧ PB P L N A c a0 e0 (m + 1) w' := by
  obtain ⟨he0, nx, hnx, hS⟩ := h
  obtain ⟨⟨⟨k, s, n, q⟩, a⟩, hp⟩ : ∃ p, pk N (L.drop nx) 0 = p := ⟨_, rfl⟩
  have HS := Lib.hid (fun W (hb : Below w.heap.size w W) => hS.below hb)
  have HX := Lib.hid (show nx + 1 ≤ 1000000 by omega)
  have HNX := Lib.hid hnx
  have HP := Lib.hid hp
  have HBB := Lib.hid (show ((e0 : Int) == 0) = false by simp; omega)
  clear hS
  cases hv : isM N (L.drop nx) 0 mb.data.toList with
  | true =>
    have HV := Lib.hid hv
    clear hv hp hnx
    go_enter Tryz.func65, Tryz.ntmps65
    go_wp2_with (first
      | (go_at_call 60; ((with_reducible refine (is_calls mb true _ (HS.out _ (Below.refl _ _)) HV.out).mono ?_); rintro e w1 ⟨rfl, hb1⟩; have HS1 := Lib.hid (HS.out _ hb1); have HB1 := Lib.hid hb1; clear hb1))
      | (go_at_call 61; ((with_reducible refine (takeA_calls _ k s n q a _ HS1.out HX.out HP.out rfl).mono ?_); rintro e w4 ⟨rfl, hs4, hg4⟩; have HS4 := Lib.hid hs4; have HG4 := Lib.hid hg4; clear hs4 hg4)))
    go_end0
    exact ⟨rfl, grown_trans (grown_below HB1.out _) HG4.out, he0, nx + 1, by have := HNX.out; omega, HS4.out⟩
  | false =>
    have HV := Lib.hid hv
    clear hv hp hnx
    go_enter Tryz.func65, Tryz.ntmps65
    go_wp2_with (first
      | (go_at_call 60; ((with_reducible refine (is_calls mb false _ (HS.out _ (Below.refl _ _)) HV.out).mono ?_); rintro e w1 ⟨rfl, hb1⟩; have HS1 := Lib.hid (HS.out _ hb1); have HB1 := Lib.hid hb1; clear hb1))
      | (go_at_call 36; ((with_reducible refine (peek0_calls ⟨k, s, n, q⟩ a _ HS1.out HP.out).mono ?_); rintro e w2 ⟨rfl, hb2⟩; have HS2 := Lib.hid (HS1.out.below hb2); have HB2 := Lib.hid hb2; clear hb2))
      | (go_at_call 35; ((with_reducible refine (fail_bad_calls _ (bs s) n q a 2 _ HS2.out HBB.out).mono ?_); rintro e w3 ⟨rfl, hb3⟩; have HS3 := Lib.hid (HS2.out.below hb3); have HB3 := Lib.hid hb3; clear hb3))
      | (go_at_call 61; ((with_reducible refine (takeA_calls _ k s n q a _ HS3.out HX.out HP.out rfl).mono ?_); rintro e w4 ⟨rfl, hs4, hg4⟩; have HS4 := Lib.hid hs4; have HG4 := Lib.hid hg4; clear hs4 hg4)))
    go_end0
    exact ⟨rfl, grown_trans (grown_below HB1.out _) (grown_trans (grown_below HB2.out _) (grown_trans (grown_below HB3.out _) HG4.out)), he0, nx + 1, by have := HNX.out; omega, HS4.out⟩

def ops6 : List ByteArray := [⟨#[61]⟩, ⟨#[33, 61]⟩, ⟨#[60]⟩, ⟨#[60, 61]⟩, ⟨#[62]⟩, ⟨#[62, 61]⟩]
theorem ops6_has (s : List UInt8) : Lib.containsS (ops6.take 6) (bs s) = opL s := by
  rw [Bool.eq_iff_iff, Lib.containsS_iff]
  unfold ops6 opL
  have e : ∀ l : List UInt8, (bs s = ⟨l.toArray⟩) ↔ (s = l) := fun l => by
    unfold bs
    constructor
    · intro h
      have h2 := congrArg (fun b : ByteArray => b.data.toList) h
      exact h2
    · intro h
      rw [h]
  have e1 := e [61]; have e2 := e [33, 61]; have e3 := e [60]; have e4 := e [60, 61]; have e5 := e [62]; have e6 := e [62, 61]
  simp only [List.take, List.mem_cons, List.not_mem_nil, or_false, Bool.or_eq_true, beq_iff_eq]
  rw [show (bs s = ⟨#[61]⟩) ↔ s = [61] from e1, show (bs s = ⟨#[33, 61]⟩) ↔ s = [33, 61] from e2, show (bs s = ⟨#[60]⟩) ↔ s = [60] from e3, show (bs s = ⟨#[60, 61]⟩) ↔ s = [60, 61] from e4, show (bs s = ⟨#[62]⟩) ↔ s = [62] from e5, show (bs s = ⟨#[62, 61]⟩) ↔ s = [62, 61] from e6]
  simp only [or_assoc]
theorem heap_new2 (w : World) (o p : Obj) : ((w.alloc o).alloc p).heap[w.heap.size + 1]? = some p := by
  have h := heap_alloc_new (w.alloc o) p
  rwa [show (w.alloc o).heap.size = w.heap.size + 1 by simp] at h
theorem contains6_calls (b : Nat) (s : List UInt8) (v : Bool) (w : World) (hb : w.heap[b]? = some (.cells #[.string ⟨#[61]⟩, .string ⟨#[33, 61]⟩, .string ⟨#[60]⟩, .string ⟨#[60, 61]⟩, .string ⟨#[62]⟩, .string ⟨#[62, 61]⟩] 9 (0, 0))) (hv : opL s = v) :
    Calls Tryz.prog 148 #[.slice (some ⟨b, 0, none⟩) 6 6, .string (bs s)] w fun e w' => e = .returned (.bool v) ∧ w' = w := by
  rw [← hv, ← ops6_has]
  refine Tryz.slices_Contains_string b 0 6 6 ops6 (bs s) w (by decide) (by decide) ?_
  intro j hj
  match j, hj with
  | 0, _ => exact cell_of_row w b 0 _ _ _ hb
  | 1, _ => exact cell_of_row w b 1 _ _ _ hb
  | 2, _ => exact cell_of_row w b 2 _ _ _ hb
  | 3, _ => exact cell_of_row w b 3 _ _ _ hb
  | 4, _ => exact cell_of_row w b 4 _ _ _ hb
  | 5, _ => exact cell_of_row w b 5 _ _ _ hb
  | j + 6, hj => exact absurd hj (by simp [ops6])
theorem peekK0_calls {P : Nat} {L : List TP} {N nx : Nat} {pl bad : Int} {A : Option Addr} {c : Nat} (K : Int) (k : Nat) (s : List UInt8) (n : Int) (q : Bool) (a : Nat) (w : World) (h : PS P L N nx pl bad A c w) (hp : pk N (L.drop nx) 0 = (⟨k, s, n, q⟩, a)) (hK : (k : Int) = K) :
    Calls Tryz.prog 36 #[.pointer (some ⟨P, 0, none⟩), .int .i64 0] w fun e w' => e = .returned (.agg #[.int .i64 K, .string (bs s), .int .i64 n, .bool q, .int .i64 (a : Int)]) ∧ Below w.heap.size w w' := by rw [← hK]; exact peek0_calls _ a w h hp
set_option maxRecDepth 100000 in
set_option maxHeartbeats 4000000 in
theorem operates0_calls {P : Nat} {L : List TP} {N nx : Nat} {pl bad : Int} {A : Option Addr} {c : Nat} (v : Bool) (w : World) (h : PS P L N nx pl bad A c w) (hv : isO N (L.drop nx) 0 = v) :
    Calls Tryz.prog 115 #[.pointer (some ⟨P, 0, none⟩), .int .i64 0] w fun e w' => e = .returned (.bool v) ∧ Below w.heap.size w w' := by
  obtain ⟨⟨⟨k, s, n, q⟩, a⟩, hp⟩ : ∃ p, pk N (L.drop nx) 0 = p := ⟨_, rfl⟩
  obtain ⟨K, hK⟩ : ∃ K : Int, (k : Int) = K := ⟨_, rfl⟩
  have HK := Lib.hid hK
  unfold isO at hv
  rw [hp] at hv
  have HS := Lib.hid h
  have HP := Lib.hid hp
  have HV := Lib.hid hv
  clear h hv hp hK
  cases h4 : (K == 4) with
  | false =>
    have HT := Lib.hid (k_no (n := 4) HK.out h4 rfl)
    go_enter Tryz.func115, Tryz.ntmps115
    go_wp2_with (first
      | (go_at_call 36; ((with_reducible refine (peekK0_calls K k s n q a _ HS.out HP.out HK.out).mono ?_); rintro e w1 ⟨rfl, hb1⟩; have HB1 := Lib.hid hb1; clear hb1)))
    go_ret
    exact ⟨by rw [← HV.out, HT.out]; rfl, HB1.out.alloc HB1.out.size _⟩
  | true =>
    have HT := Lib.hid (k_yes (n := 4) HK.out h4 rfl)
    obtain rfl : K = 4 := by simpa using h4
    clear h4
    cases ho : opL s with
    | true =>
      have HO := Lib.hid ho
      go_enter Tryz.func115, Tryz.ntmps115
      go_wp2_with (first
        | (go_at_call 36; ((with_reducible refine (peekK0_calls 4 k s n q a _ HS.out HP.out HK.out).mono ?_); rintro e w1 ⟨rfl, hb1⟩; have HB1 := Lib.hid hb1; clear hb1))
        | (go_at_call 148; ((with_reducible refine (contains6_calls _ s true _ ?_ HO.out).mono ?_); (focus (exact heap_new2 _ _ _)); rintro e w2 ⟨rfl, hw⟩; rw [hw]; clear hw)))
      go_ret
      exact ⟨by rw [← HV.out, HT.out, HO.out]; rfl, (HB1.out.alloc HB1.out.size _).alloc (by have := HB1.out.size; simp; omega) _⟩
    | false =>
      have HO := Lib.hid ho
      go_enter Tryz.func115, Tryz.ntmps115
      go_wp2_with (first
        | (go_at_call 36; ((with_reducible refine (peekK0_calls 4 k s n q a _ HS.out HP.out HK.out).mono ?_); rintro e w1 ⟨rfl, hb1⟩; have HB1 := Lib.hid hb1; clear hb1))
        | (go_at_call 148; ((with_reducible refine (contains6_calls _ s false _ ?_ HO.out).mono ?_); (focus (exact heap_new2 _ _ _)); rintro e w2 ⟨rfl, hw⟩; rw [hw]; clear hw)))
      go_ret
      exact ⟨by rw [← HV.out, HT.out, HO.out]; rfl, (HB1.out.alloc HB1.out.size _).alloc (by have := HB1.out.size; simp; omega) _⟩
theorem peekK1_calls {P : Nat} {L : List TP} {N nx : Nat} {pl bad : Int} {A : Option Addr} {c : Nat} (K : Int) (k : Nat) (s : List UInt8) (n : Int) (q : Bool) (a : Nat) (w : World) (h : PS P L N nx pl bad A c w) (hp : pk N (L.drop nx) 1 = (⟨k, s, n, q⟩, a)) (hK : (k : Int) = K) :
    Calls Tryz.prog 36 #[.pointer (some ⟨P, 0, none⟩), .int .i64 1] w fun e w' => e = .returned (.agg #[.int .i64 K, .string (bs s), .int .i64 n, .bool q, .int .i64 (a : Int)]) ∧ Below w.heap.size w w' := by rw [← hK]; exact peek1_calls _ a w h hp
set_option maxRecDepth 100000 in
set_option maxHeartbeats 4000000 in
theorem operates1_calls {P : Nat} {L : List TP} {N nx : Nat} {pl bad : Int} {A : Option Addr} {c : Nat} (v : Bool) (w : World) (h : PS P L N nx pl bad A c w) (hv : isO N (L.drop nx) 1 = v) :
    Calls Tryz.prog 115 #[.pointer (some ⟨P, 0, none⟩), .int .i64 1] w fun e w' => e = .returned (.bool v) ∧ Below w.heap.size w w' := by
  obtain ⟨⟨⟨k, s, n, q⟩, a⟩, hp⟩ : ∃ p, pk N (L.drop nx) 1 = p := ⟨_, rfl⟩
  obtain ⟨K, hK⟩ : ∃ K : Int, (k : Int) = K := ⟨_, rfl⟩
  have HK := Lib.hid hK
  unfold isO at hv
  rw [hp] at hv
  have HS := Lib.hid h
  have HP := Lib.hid hp
  have HV := Lib.hid hv
  clear h hv hp hK
  cases h4 : (K == 4) with
  | false =>
    have HT := Lib.hid (k_no (n := 4) HK.out h4 rfl)
    go_enter Tryz.func115, Tryz.ntmps115
    go_wp2_with (first
      | (go_at_call 36; ((with_reducible refine (peekK1_calls K k s n q a _ HS.out HP.out HK.out).mono ?_); rintro e w1 ⟨rfl, hb1⟩; have HB1 := Lib.hid hb1; clear hb1)))
    go_ret
    exact ⟨by rw [← HV.out, HT.out]; rfl, HB1.out.alloc HB1.out.size _⟩
  | true =>
    have HT := Lib.hid (k_yes (n := 4) HK.out h4 rfl)
    obtain rfl : K = 4 := by simpa using h4
    clear h4
    cases ho : opL s with
    | true =>
      have HO := Lib.hid ho
      go_enter Tryz.func115, Tryz.ntmps115
      go_wp2_with (first
        | (go_at_call 36; ((with_reducible refine (peekK1_calls 4 k s n q a _ HS.out HP.out HK.out).mono ?_); rintro e w1 ⟨rfl, hb1⟩; have HB1 := Lib.hid hb1; clear hb1))
        | (go_at_call 148; ((with_reducible refine (contains6_calls _ s true _ ?_ HO.out).mono ?_); (focus (exact heap_new2 _ _ _)); rintro e w2 ⟨rfl, hw⟩; rw [hw]; clear hw)))
      go_ret
      exact ⟨by rw [← HV.out, HT.out, HO.out]; rfl, (HB1.out.alloc HB1.out.size _).alloc (by have := HB1.out.size; simp; omega) _⟩
    | false =>
      have HO := Lib.hid ho
      go_enter Tryz.func115, Tryz.ntmps115
      go_wp2_with (first
        | (go_at_call 36; ((with_reducible refine (peekK1_calls 4 k s n q a _ HS.out HP.out HK.out).mono ?_); rintro e w1 ⟨rfl, hb1⟩; have HB1 := Lib.hid hb1; clear hb1))
        | (go_at_call 148; ((with_reducible refine (contains6_calls _ s false _ ?_ HO.out).mono ?_); (focus (exact heap_new2 _ _ _)); rintro e w2 ⟨rfl, hw⟩; rw [hw]; clear hw)))
      go_ret
      exact ⟨by rw [← HV.out, HT.out, HO.out]; rfl, (HB1.out.alloc HB1.out.size _).alloc (by have := HB1.out.size; simp; omega) _⟩
end Go.Proofs.YtminbdcabacfbaaGreatDoor.V

namespace Go.Proofs.YtminbdcabacfbaaGreatDoor.V
set_option linter.unusedVariables false
set_option linter.unusedSimpArgs false
open Go.RowKit

def Par.pre {α : Type} (acc : List α) : Par (List α) → Par (List α)
  | .bad a e => .bad a e
  | .ok xs r => .ok (acc ++ xs) r
theorem pre_nil {α : Type} (p : Par (List α)) : Par.pre [] p = p := by cases p <;> rfl
theorem some_zero {α : Type} (one : List TP → Par α) (N : Nat) (r : List TP) : someP one N 0 r = .bad (pk N r 0).2 4 := rfl
theorem some_bad {α : Type} {one : List TP → Par α} {N m : Nat} {r : List TP} {a e : Nat} (h : one r = .bad a e) : someP one N (m + 1) r = .bad a e := by
  rw [someP, h]
theorem some_last {α : Type} {one : List TP → Par α} {N m : Nat} {r r1 : List TP} {x : α} (h : one r = .ok x r1) (hc : isM N r1 0 [44] = false) : someP one N (m + 1) r = .ok [x] r1 := by
  rw [someP, h]
  simp [hc]
theorem some_more {α : Type} {one : List TP → Par α} {N m : Nat} {r r1 : List TP} {x : α} {acc : List α} (h : one r = .ok x r1) (hc : isM N r1 0 [44] = true) : Par.pre acc (someP one N (m + 1) r) = Par.pre (acc ++ [x]) (someP one N m r1.tail) := by
  rw [someP, h]
  simp only [hc, if_true]
  cases someP one N m r1.tail <;> simp [Par.pre]
theorem comma_in {N : Nat} {L : List TP} {nx : Nat} {mb : List UInt8} (h : isM N (L.drop nx) 0 mb = true) : nx < L.length := by
  unfold isM at h
  simp only [Bool.and_eq_true, beq_iff_eq] at h
  by_cases hl : nx < L.length
  · exact hl
  · rw [pk_out (by omega)] at h
    exact absurd h.1 (by simp [eofT])

set_option maxRecDepth 100000 in
set_option maxHeartbeats 8000000 in
theorem some_calls {α : Type} {P : Nat} {L : List TP} {N : Nat} {A : Option Addr} {c : Nat} (F : Nat) (lb : Array Value) (eF : ∀ args w, (callFunc F args).run Tryz.prog w = .ok (.enter F args) w) (one : List TP → Par α) (J : World → List α → Prop)
    (hJ : ∀ w w' acc, J w acc → w.grownBy w' (some P) → J w' acc) (m : Nat) (hm : m + 1 ≤ 1000000) (hm2 : 65537 ≤ m)
    (hone : ∀ w acc r, acc.length ≤ 100 → PO P L N A c r w → J w acc → Calls Tryz.prog F lb w fun e w' => e = .returned (.tuple #[]) ∧ ∃ x, J w' (acc ++ [x]) ∧ PGot P L N A c m (one r) (fun y => y = x) w')
    (n : Nat) (hn : n ≤ 100) (r : List TP) (w : World) (h : PO P L N A c r w) (hj : J w []) :
    Calls Tryz.prog 62 #[.pointer (some ⟨P, 0, none⟩), .int .i64 (n : Int), .func (.func F) #[] lb] w fun e w' => e = .returned (.tuple #[]) ∧ ∃ acc, J w' acc ∧ PGot P L N A c (m + 1) (someP one N n r) (fun l => l = acc) w' := by
  have HJ := Lib.hid hJ
  have HONE := Lib.hid hone
  have H := Lib.hid h
  have HJ0 := Lib.hid hj
  clear hJ hone h hj
  go_enter Tryz.func62, Tryz.ntmps62
  go_wp2_with fail
  go_loopw [6] (fun v wr => ∃ acc, v = .int .i64 (acc.length : Int) ∧ J wr acc ∧ ((acc.length ≤ n ∧ ∃ r', PO P L N A c r' wr ∧ someP one N n r = Par.pre acc (someP one N (n - acc.length) r')) ∨ (acc.length ≤ n ∧ ∃ a e, PB P L N A c a e (m + 1) wr ∧ someP one N n r = .bad a e))) (fun v _ => n + 1 - (intOf v).toNat)
  case atStart => exact ⟨[], rfl, HJ0.out, .inl ⟨Nat.zero_le _, r, H.out, by rw [pre_nil]; rfl⟩⟩
  case round =>
    obtain ⟨acc, rfl, hj, hst⟩ := hrel
    have HJR := Lib.hid hj
    clear hj
    rcases hst with ⟨hln, r', hpo, heq⟩ | ⟨hln, a, e, hpb, heq⟩
    · obtain ⟨nx, hnx, rfl, hS⟩ := hpo
      have HEQ := Lib.hid heq
      have HS := Lib.hid hS
      have HN := Lib.hid hS.n
      have HNX := Lib.hid hnx
      clear heq hS hnx
      by_cases hlt : acc.length < n
      · have hd : ((acc.length : Int) == (n : Int)) = false := by simp; omega
        cases ho : one (L.drop nx) with
        | bad a e =>
          have HF := Lib.hid (show someP one N n r = .bad a e by
            rw [HEQ.out, show n - acc.length = (n - acc.length - 1) + 1 by omega, some_bad ho]
            rfl)
          have HO := Lib.hid ho
          have HC := Lib.hid (HONE.out wr acc (L.drop nx) (by omega) ⟨nx, HNX.out, rfl, HS.out⟩ HJR.out)
          clear ho
          go_wp2_with (first
            | (go_at_call 33; ((with_reducible refine (pok_calls true _ HS.out rfl).mono ?_); rintro e w1 ⟨rfl, rfl⟩))
            | (go_at_fn F; (refine HC.out.mono ?_); rintro e w1 ⟨rfl, x, hj1, hg1⟩; rw [HO.out] at hg1; obtain ⟨he0, nx1, hnx1, hS1⟩ := hg1; have HE0 := Lib.hid he0; have HJ1 := Lib.hid hj1; have HNX1 := Lib.hid hnx1; have HS1 := Lib.hid hS1; clear he0 hj1 hnx1 hS1; refine RowKit.Hid.out ?_))
          refine Lib.hid ?_
          cases hv : isM N (L.drop nx1) 0 [44] with
          | false =>
            have HV := Lib.hid (show isM N (L.drop nx1) 0 (⟨#[44]⟩ : ByteArray).data.toList = false from hv)
            clear hv
            go_wp2_with (go_at_call 60; ((with_reducible refine (is_calls ⟨#[44]⟩ false _ HS1.out HV.out).mono ?_); rintro e w2 ⟨rfl, hb2⟩; have HS2 := Lib.hid (HS1.out.below hb2); have HB2 := Lib.hid hb2; clear hb2))
            refine bodyPost_ret (results_none rfl _ _ _) rfl ?_
            refine ⟨rfl, acc ++ [x], HJ.out _ _ _ HJ1.out (grown_below HB2.out _), ?_⟩
            rw [HF.out]
            exact ⟨HE0.out, nx1, by have := HNX1.out; omega, HS2.out⟩
          | true =>
            have HV := Lib.hid (show isM N (L.drop nx1) 0 (⟨#[44]⟩ : ByteArray).data.toList = true from hv)
            have HIN := Lib.hid (comma_in hv)
            obtain ⟨⟨⟨k, s, n3, q⟩, a3⟩, hp⟩ : ∃ p, pk N (L.drop nx1) 0 = p := ⟨_, rfl⟩
            have HP := Lib.hid hp
            have HX := Lib.hid (show nx1 + 1 ≤ 1000000 by have := HIN.out; have := HN.out; omega)
            clear hv hp
            go_wp2_with (first
              | (go_at_call 60; ((with_reducible refine (is_calls ⟨#[44]⟩ true _ HS1.out HV.out).mono ?_); rintro e w2 ⟨rfl, hb2⟩; have HS2 := Lib.hid (HS1.out.below hb2); have HB2 := Lib.hid hb2; clear hb2))
              | (go_at_call 61; ((with_reducible refine (takeA_calls _ k s n3 q a3 _ HS2.out HX.out HP.out rfl).mono ?_); rintro e w3 ⟨rfl, hs3, hg3⟩; have HS3 := Lib.hid hs3; have HG3 := Lib.hid hg3; clear hs3 hg3)))
            go_roundw
            case rel => exact ⟨acc ++ [x], by simp, HJ.out _ _ _ HJ1.out (grown_trans (grown_below HB2.out _) HG3.out), .inr ⟨by simp; omega, a, e, ⟨HE0.out, nx1 + 1, by have := HNX1.out; omega, HS3.out⟩, HF.out⟩⟩
            case measure => simp [intOf]; omega
        | ok x0 r1 =>
          have HO := Lib.hid ho
          have HC := Lib.hid (HONE.out wr acc (L.drop nx) (by omega) ⟨nx, HNX.out, rfl, HS.out⟩ HJR.out)
          obtain ⟨⟨⟨k, s, n3, q⟩, a3⟩, hp⟩ : ∃ p, pk N r1 0 = p := ⟨_, rfl⟩
          have HP0 := Lib.hid hp
          clear hp
          cases hv : isM N r1 0 [44] with
          | false =>
            have HF := Lib.hid (show someP one N n r = .ok (acc ++ [x0]) r1 by
              rw [HEQ.out, show n - acc.length = (n - acc.length - 1) + 1 by omega, some_last ho hv]
              rfl)
            have HV0 := Lib.hid hv
            clear ho hv
            go_wp2_with (first
              | (go_at_call 33; ((with_reducible refine (pok_calls true _ HS.out rfl).mono ?_); rintro e w1 ⟨rfl, rfl⟩))
              | (go_at_fn F; (refine HC.out.mono ?_); rintro e w1 ⟨rfl, x, hj1, hg1⟩; rw [HO.out] at hg1; obtain ⟨hxx, nx1, hnx1, hr1, hS1⟩ := hg1; have HXX := Lib.hid hxx; have HJ1 := Lib.hid hj1; have HNX1 := Lib.hid hnx1; have HS1 := Lib.hid hS1; have HR1 := Lib.hid hr1; have HV := Lib.hid (show isM N (L.drop nx1) 0 (⟨#[44]⟩ : ByteArray).data.toList = false by rw [hr1]; exact HV0.out); clear hxx hj1 hnx1 hS1 hr1)
              | (go_at_call 60; ((with_reducible refine (is_calls ⟨#[44]⟩ false _ HS1.out HV.out).mono ?_); rintro e w2 ⟨rfl, hb2⟩; have HS2 := Lib.hid (HS1.out.below hb2); have HB2 := Lib.hid hb2; clear hb2)))
            refine bodyPost_ret (results_none rfl _ _ _) rfl ?_
            refine ⟨rfl, acc ++ [x], HJ.out _ _ _ HJ1.out (grown_below HB2.out _), ?_⟩
            rw [HF.out]
            exact ⟨by rw [HXX.out], nx1, HNX1.out, HR1.out, HS2.out⟩
          | true =>
            have HF := Lib.hid (show someP one N n r = Par.pre (acc ++ [x0]) (someP one N (n - (acc.length + 1)) r1.tail) by
              rw [HEQ.out, show n - acc.length = (n - acc.length - 1) + 1 by omega, some_more ho hv]
              congr 2
              )
            have HV0 := Lib.hid hv
            clear ho hv
            go_wp2_with (first
              | (go_at_call 33; ((with_reducible refine (pok_calls true _ HS.out rfl).mono ?_); rintro e w1 ⟨rfl, rfl⟩))
              | (go_at_fn F; (refine HC.out.mono ?_); rintro e w1 ⟨rfl, x, hj1, hg1⟩; rw [HO.out] at hg1; obtain ⟨hxx, nx1, hnx1, hr1, hS1⟩ := hg1; have HXX := Lib.hid hxx; have HJ1 := Lib.hid hj1; have HS1 := Lib.hid hS1; have HR1 := Lib.hid hr1; have hv1 : isM N (L.drop nx1) 0 [44] = true := (by rw [hr1]; exact HV0.out); have HV := Lib.hid (show isM N (L.drop nx1) 0 (⟨#[44]⟩ : ByteArray).data.toList = true from hv1); have HIN := Lib.hid (comma_in hv1); have HX := Lib.hid (show nx1 + 1 ≤ 1000000 by have := HIN.out; have := HN.out; omega); have HP := Lib.hid (show pk N (L.drop nx1) 0 = (⟨k, s, n3, q⟩, a3) by rw [hr1]; exact HP0.out); clear hxx hj1 hnx1 hS1 hr1 hv1)
              | (go_at_call 60; ((with_reducible refine (is_calls ⟨#[44]⟩ true _ HS1.out HV.out).mono ?_); rintro e w2 ⟨rfl, hb2⟩; have HS2 := Lib.hid (HS1.out.below hb2); have HB2 := Lib.hid hb2; clear hb2))
              | (go_at_call 61; ((with_reducible refine (takeA_calls _ k s n3 q a3 _ HS2.out HX.out HP.out rfl).mono ?_); rintro e w3 ⟨rfl, hs3, hg3⟩; have HS3 := Lib.hid hs3; have HG3 := Lib.hid hg3; clear hs3 hg3)))
            go_roundw
            case rel => exact ⟨acc ++ [x], by simp, HJ.out _ _ _ HJ1.out (grown_trans (grown_below HB2.out _) HG3.out), .inl ⟨by simp; omega, r1.tail, ⟨nx1 + 1, HIN.out, by rw [← HR1.out, List.tail_drop], HS3.out⟩, by rw [HF.out, HXX.out, List.length_append, List.length_singleton]⟩⟩
            case measure => simp [intOf]; omega
      · have hd : ((acc.length : Int) == (n : Int)) = true := by simp; omega
        obtain ⟨⟨⟨k, s, n3, q⟩, a3⟩, hp⟩ : ∃ p, pk N (L.drop nx) 0 = p := ⟨_, rfl⟩
        have HP := Lib.hid hp
        have HF := Lib.hid (show someP one N n r = .bad a3 4 by
          rw [HEQ.out, show n - acc.length = 0 by omega, some_zero, hp]
          rfl)
        clear hp
        go_wp2_with (first
          | (go_at_call 33; ((with_reducible refine (pok_calls true _ HS.out rfl).mono ?_); rintro e w1 ⟨rfl, rfl⟩))
          | (go_at_call 36; ((with_reducible refine (peek0_calls ⟨k, s, n3, q⟩ a3 _ HS.out HP.out).mono ?_); rintro e w2 ⟨rfl, hb2⟩; have HS2 := Lib.hid (HS.out.below hb2); have HB2 := Lib.hid hb2; clear hb2))
          | (go_at_call 35; ((with_reducible refine (fail_ok_calls _ (bs s) n3 q a3 4 _ HS2.out).mono ?_); rintro e w3 ⟨rfl, hs3, hg3⟩; have HS3 := Lib.hid hs3; have HG3 := Lib.hid hg3; clear hs3 hg3)))
        refine bodyPost_ret (results_none rfl _ _ _) rfl ?_
        refine ⟨rfl, acc, HJ.out _ _ _ HJR.out (grown_trans (grown_below HB2.out _) HG3.out), ?_⟩
        rw [HF.out]
        exact ⟨by omega, nx, by have := HNX.out; have := HN.out; omega, HS3.out⟩
    · obtain ⟨he0, nx, hnx, hS⟩ := hpb
      have HS := Lib.hid hS
      have HF := Lib.hid heq
      have HE0 := Lib.hid he0
      have HNX := Lib.hid hnx
      have HBB := Lib.hid (show ((e : Int) == 0) = false by simp; omega)
      clear hS heq he0 hnx
      go_wp2_with (first
        | (go_at_call 33; ((with_reducible refine (pok_calls false _ HS.out HBB.out).mono ?_); rintro e w1 ⟨rfl, rfl⟩)))
      go_end0
      refine ⟨rfl, acc, HJR.out, ?_⟩
      rw [HF.out]
      exact ⟨HE0.out, nx, HNX.out, HS.out⟩
theorem someI_calls {α : Type} {P : Nat} {L : List TP} {N : Nat} {A : Option Addr} {c : Nat} (F : Nat) (lb : Array Value) (eF : ∀ args w, (callFunc F args).run Tryz.prog w = .ok (.enter F args) w) (one : List TP → Par α) (J : World → List α → Prop)
    (hJ : ∀ w w' acc, J w acc → w.grownBy w' (some P) → J w' acc) (m : Nat) (hm : m + 1 ≤ 1000000) (hm2 : 65537 ≤ m)
    (hone : ∀ w acc r, acc.length ≤ 100 → PO P L N A c r w → J w acc → Calls Tryz.prog F lb w fun e w' => e = .returned (.tuple #[]) ∧ ∃ x, J w' (acc ++ [x]) ∧ PGot P L N A c m (one r) (fun y => y = x) w')
    (n : Nat) (nI : Int) (hI : (n : Int) = nI) (hn : n ≤ 100) (r : List TP) (w : World) (h : PO P L N A c r w) (hj : J w []) :
    Calls Tryz.prog 62 #[.pointer (some ⟨P, 0, none⟩), .int .i64 nI, .func (.func F) #[] lb] w fun e w' => e = .returned (.tuple #[]) ∧ ∃ acc, J w' acc ∧ PGot P L N A c (m + 1) (someP one N n r) (fun l => l = acc) w' := by
  rw [← hI]
  exact some_calls F lb eF one J hJ m hm hm2 hone n hn r w h hj
end Go.Proofs.YtminbdcabacfbaaGreatDoor.V
