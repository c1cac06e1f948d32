/- The parser's state; (*stream).peek, take, is, operates; (*parser).fail, ok, mark. -/
import Derived.Test.YthhfjimhfehimaaDoorScan
import Derived.Test.YthhfjimhfehimaaDoorPar
namespace Go.Proofs.YthhfjimhfehimaaDoor.V
set_option linter.unusedVariables false
set_option linter.unusedSimpArgs false
open Go.RowKit

def bs (l : List UInt8) : ByteArray := ⟨l.toArray⟩
def tokA (t : Tok) (a : Nat) : Value := .agg #[.int .i64 (t.k : Int), .string (bs t.s), .int .i64 t.n, .bool t.q, .int .i64 (a : Int)]

/-- The parser's block, its tokens beside it. -/
structure PS (P : Nat) (L : List TP) (N nx : Nat) (pl bad : Int) (A : Option Addr) (c : Nat) (W : World) : Prop where
  b : W.heap[P]? = some (.cells #[.slice A L.length c, .int .i64 (nx : Int), .int .i64 (N : Int), .int .i64 pl, .int .i64 bad] 54 (0, 0))
  o : W.ownsRow 0 60 5 (.slice A L.length c) L.length (tokCells L)
  n : L.length ≤ 65536
  s : N ≤ 65536
  x : nx ≤ 1000000
section
variable {P : Nat} {L : List TP} {N nx : Nat} {pl bad : Int} {A : Option Addr} {c : Nat} {W W' : World}
theorem PS.c0 (h : PS P L N nx pl bad A c W) : W.cell? ⟨P, 0, none⟩ = some (.slice A L.length c) := cell_of_row W P 0 _ _ _ h.b
theorem PS.c1 (h : PS P L N nx pl bad A c W) : W.cell? ⟨P, 1, none⟩ = some (.int .i64 (nx : Int)) := cell_of_row W P 1 _ _ _ h.b
theorem PS.c2 (h : PS P L N nx pl bad A c W) : W.cell? ⟨P, 2, none⟩ = some (.int .i64 (N : Int)) := cell_of_row W P 2 _ _ _ h.b
theorem PS.c3 (h : PS P L N nx pl bad A c W) : W.cell? ⟨P, 3, none⟩ = some (.int .i64 pl) := cell_of_row W P 3 _ _ _ h.b
theorem PS.c4 (h : PS P L N nx pl bad A c W) : W.cell? ⟨P, 4, none⟩ = some (.int .i64 bad) := cell_of_row W P 4 _ _ _ h.b
theorem PS.fr (h : PS P L N nx pl bad A c W) (i : Nat) : W.frozen? ⟨P, i, none⟩ = false := frozen_of_row W P i _ _ h.b
theorem PS.lt (h : PS P L N nx pl bad A c W) : P < W.heap.size := (Array.getElem?_eq_some_iff.1 h.b).1
theorem PS.ne (h : PS P L N nx pl bad A c W) : some P ≠ Value.ownBlock (.slice A L.length c) := by
  intro he
  rcases h.o.2 with ⟨hv, _⟩ | ⟨g, cap, cur, hv, _, hk, _⟩
  · rw [hv] at he
    cases he
  · rw [hv] at he
    have : P = g := Option.some.inj he
    subst this
    have hb := h.b
    rw [hk] at hb
    simp at hb
theorem PS.grown {row : Option Nat} (h : PS P L N nx pl bad A c W) (hg : W.grownBy W' row) (h1 : some P ≠ row) (h2 : Value.ownBlock (.slice A L.length c) ≠ row) : PS P L N nx pl bad A c W' :=
  ⟨(hg.block P h.lt h1).trans h.b, h.o.kept hg (.inr h2), h.n, h.s, h.x⟩
theorem PS.below (h : PS P L N nx pl bad A c W) (hb : Below W.heap.size W W') : PS P L N nx pl bad A c W' :=
  ⟨(hb.block P h.lt).trans h.b, h.o.kept (grown_below hb none) (by cases A <;> simp [Value.ownBlock]), h.n, h.s, h.x⟩
theorem PS.setNext (h : PS P L N nx pl bad A c W) (m : Nat) (hm : m ≤ 1000000) : PS P L N m pl bad A c (W.setCell ⟨P, 1, none⟩ (.int .i64 (m : Int))) :=
  ⟨set_block h.b _, h.o.kept (grown_set (World.grownBy.refl W (some P)) 1 _) (.inr (Ne.symm h.ne)), h.n, h.s, hm⟩
theorem PS.setBad (h : PS P L N nx pl bad A c W) (a e : Int) : PS P L N nx a e A c ((W.setCell ⟨P, 3, none⟩ (.int .i64 a)).setCell ⟨P, 4, none⟩ (.int .i64 e)) :=
  ⟨set_block (set_block h.b _) _, h.o.kept (grown_set (grown_set (World.grownBy.refl W (some P)) 3 _) 4 _) (.inr (Ne.symm h.ne)), h.n, h.s, h.x⟩
end
theorem PS.old {P T : Nat} {L : List TP} {N nx : Nat} {pl bad : Int} {A : Option Addr} {c : Nat} {W : World} (h : PS P L N nx pl bad A c W) (hA : some T = Value.ownBlock (.slice A L.length c)) : T < W.heap.size := (h.o.lt T hA.symm).2
/-- Another block's turn, of another type. -/
theorem PS.tokSet {P T : Nat} {L : List TP} {N nx : Nat} {pl bad : Int} {A : Option Addr} {c : Nat} {W : World} (h : PS P L N nx pl bad A c W) (hne : P ≠ T) (hA : some T ≠ Value.ownBlock (.slice A L.length c)) (u0 u1 u2 u3 u4 : Value) : PS P L N nx pl bad A c (V.tokSet T u0 u1 u2 u3 u4 W) :=
  h.grown (row := some T) (grown_set (grown_set (grown_set (grown_set (grown_set (World.grownBy.refl W (some T)) _ _) _ _) _ _) _ _) _ _) (by simpa using hne) (Ne.symm hA)
theorem tokCells_at (L : List TP) : ∀ (m j : Nat) (p : TP), L[m]? = some p → j < 5 → (tokCells L)[m * 5 + j]? = (tokC p)[j]? := by
  induction L with
  | nil => intro m j p h; simp at h
  | cons x l ih =>
    intro m j p h hj
    unfold tokCells
    rw [List.flatMap_cons]
    match m with
    | 0 =>
      simp at h
      subst h
      rw [Nat.zero_mul, Nat.zero_add, List.getElem?_append_left (by simp [tokC]; omega)]
    | m + 1 =>
      rw [List.getElem?_append_right (by simp [tokC]; omega)]
      have := ih m j p (by simpa using h) hj
      unfold tokCells at this
      rw [← this]
      congr 1
      simp [tokC]
      omega
theorem pk_in {N : Nat} {L : List TP} {nx i : Nat} {t : Tok} {a : Nat} (hp : pk N (L.drop nx) i = (t, a)) (h : nx + i < L.length) : L[nx + i]? = some (t, a) := by
  unfold pk at hp
  rw [List.getElem?_drop, List.getElem?_eq_getElem h] at hp
  rw [List.getElem?_eq_getElem h]
  simpa using hp
theorem pk_out {N : Nat} {L : List TP} {nx i : Nat} (h : L.length ≤ nx + i) : pk N (L.drop nx) i = eofT N := by
  unfold pk
  rw [List.getElem?_drop, List.getElem?_eq_none h]
  rfl
theorem PS.row {P : Nat} {L : List TP} {N nx : Nat} {pl bad : Int} {A : Option Addr} {c : Nat} {W : World} (h : PS P L N nx pl bad A c W) {m : Nat} {t : Tok} {a : Nat} (hm : L[m]? = some (t, a)) :
    ∃ g, A = some ⟨g, 0, none⟩ ∧ W.cell? ⟨g, m * 5, none⟩ = some (.int .i64 (t.k : Int)) ∧ W.cell? ⟨g, m * 5 + 1, none⟩ = some (.string (bs t.s)) ∧ W.cell? ⟨g, m * 5 + 2, none⟩ = some (.int .i64 t.n) ∧ W.cell? ⟨g, m * 5 + 3, none⟩ = some (.bool t.q) ∧ W.cell? ⟨g, m * 5 + 4, none⟩ = some (.int .i64 (a : Int)) := by
  have ho := h.o
  have hlt : m < L.length := (List.getElem?_eq_some_iff.1 hm).1
  rcases ho.2 with ⟨hv, h0⟩ | ⟨g, cap, cur, hv, _, hk, _, _, _, hcur⟩
  · omega
  · have hA : A = some ⟨g, 0, none⟩ := by injection hv
    refine ⟨g, hA, ?_⟩
    have key : ∀ j u, j < 5 → (tokC (t, a))[j]? = some u → W.cell? ⟨g, m * 5 + j, none⟩ = some u := by
      intro j u hj hu
      rw [cell_of_row W g (m * 5 + j) cur _ _ hk]
      have h2 : cur[m * 5 + j]? = (tokCells L)[m * 5 + j]? := by
        rw [← hcur, List.getElem?_take_of_lt (by omega)]
        simp
      rw [h2, tokCells_at L m j _ hm hj]
      exact hu
    exact ⟨key 0 _ (by omega) rfl, key 1 _ (by omega) rfl, key 2 _ (by omega) rfl, key 3 _ (by omega) rfl, key 4 _ (by omega) rfl⟩

set_option maxRecDepth 100000 in
theorem peek_calls {P : Nat} {L : List TP} {N nx : Nat} {pl bad : Int} {A : Option Addr} {c : Nat} (i : Nat) (t : Tok) (a : Nat) (w : World) (h : PS P L N nx pl bad A c w) (hi : i ≤ 1) (hp : pk N (L.drop nx) i = (t, a)) :
    Calls Tryd.prog 16 #[.pointer (some ⟨P, 0, none⟩), .int .i64 (i : Int)] w fun e w' => e = .returned (tokA t a) ∧ Below w.heap.size w w' := by
  have hg0 := World.grownBy_alloc w (.cells #[.int .i64 0, .string ⟨#[]⟩, .int .i64 0, .bool false, .int .i64 0] 60) none
  have hx := h.x
  have hn := h.n
  have h2 := h.below (below_of_grown hg0)
  have c0 := h2.c0
  have c1 := h2.c1
  have c2 := h2.c2
  have HB := Lib.hid (below_of_grown hg0)
  by_cases hlt : nx + i < L.length
  · have hd : decide ((L.length : Int) ≤ (nx : Int) + (i : Int)) = false := decide_eq_false (by omega)
    obtain ⟨g, rfl, r0, r1, r2, r3, r4⟩ := h2.row (pk_in hp hlt)
    clear h h2 hp hg0
    go_enter Tryd.func16, Tryd.ntmps16
    go_wp2_with fail
    go_region
    go_wp2_with fail
    go_region
    go_wp2_with fail
    refine bodyPost_ret (v := tokA t a) (by simp [results, Tryd.results16, go_sem, tokA]) rfl ⟨rfl, ?_⟩
    exact ((Below.refl w.heap.size w).alloc (Nat.le_refl _) _).drew.drew
  · have hd : decide ((L.length : Int) ≤ (nx : Int) + (i : Int)) = true := decide_eq_true (by omega)
    have HP := Lib.hid (show (t, a) = eofT N by rw [← hp, pk_out (by omega)])
    clear h h2 hp hg0
    go_enter Tryd.func16, Tryd.ntmps16
    go_wp2_with fail
    go_region
    go_wp2_with fail
    refine bodyPost_ret (v := tokA (eofT N).1 (eofT N).2) (by simp [results, Tryd.results16, go_sem, tokA, eofT, bs]) rfl ⟨?_, ?_⟩
    · rw [← HP.out]
    exact ((Below.refl w.heap.size w).alloc (Nat.le_refl _) _).drew
theorem peek0_calls {P : Nat} {L : List TP} {N nx : Nat} {pl bad : Int} {A : Option Addr} {c : Nat} (t : Tok) (a : Nat) (w : World) (h : PS P L N nx pl bad A c w) (hp : pk N (L.drop nx) 0 = (t, a)) :
    Calls Tryd.prog 16 #[.pointer (some ⟨P, 0, none⟩), .int .i64 0] w fun e w' => e = .returned (.agg #[.int .i64 (t.k : Int), .string (bs t.s), .int .i64 t.n, .bool t.q, .int .i64 (a : Int)]) ∧ Below w.heap.size w w' := peek_calls 0 t a w h (by omega) hp
theorem peek1_calls {P : Nat} {L : List TP} {N nx : Nat} {pl bad : Int} {A : Option Addr} {c : Nat} (t : Tok) (a : Nat) (w : World) (h : PS P L N nx pl bad A c w) (hp : pk N (L.drop nx) 1 = (t, a)) :
    Calls Tryd.prog 16 #[.pointer (some ⟨P, 0, none⟩), .int .i64 1] w fun e w' => e = .returned (.agg #[.int .i64 (t.k : Int), .string (bs t.s), .int .i64 t.n, .bool t.q, .int .i64 (a : Int)]) ∧ Below w.heap.size w w' := peek_calls 1 t a w h (by omega) hp

theorem PS.takeW {P : Nat} {L : List TP} {N nx : Nat} {pl bad : Int} {A : Option Addr} {c : Nat} {w W : World} (h : PS P L N nx pl bad A c w) (hb : Below w.heap.size w W) (hx : nx + 1 ≤ 1000000) : PS P L N (nx + 1) pl bad A c (W.setCell ⟨P, 1, none⟩ (.int .i64 ((nx : Int) + 1))) := (h.below hb).setNext (nx + 1) hx

set_option maxRecDepth 100000 in
theorem take_calls {P : Nat} {L : List TP} {N nx : Nat} {pl bad : Int} {A : Option Addr} {c : Nat} (t : Tok) (a : Nat) (w : World) (h : PS P L N nx pl bad A c w) (hx : nx + 1 ≤ 1000000) (hp : pk N (L.drop nx) 0 = (t, a)) :
    Calls Tryd.prog 20 #[.pointer (some ⟨P, 0, none⟩)] w fun e w' => e = .returned (tokA t a) ∧ PS P L N (nx + 1) pl bad A c w' ∧ w.grownBy w' (some P) := by
  have h1 := h.below ((Below.refl w.heap.size w).alloc (Nat.le_refl _) (.cells #[.int .i64 0, .string ⟨#[]⟩, .int .i64 0, .bool false, .int .i64 0] 60))
  have hK := IsTok.new (v0 := .int .i64 0) (v1 := .string ⟨#[]⟩) (v2 := .int .i64 0) (v3 := .bool false) (v4 := .int .i64 0) w
  have H1 := Lib.hid h1
  have H0 := Lib.hid h
  have HK := Lib.hid hK
  have HLT := Lib.hid h.lt
  clear h h1 hK
  go_enter Tryd.func20, Tryd.ntmps20
  go_wp2_with (go_at_call 16; ((with_reducible refine (peek0_calls t a _ H1.out hp).mono ?_); rintro e w1 ⟨rfl, hb⟩; have h1 := H1.out.below hb; have h2 := h1.below ((Below.refl w1.heap.size w1).alloc (Nat.le_refl _) (.cells #[.int .i64 (t.k : Int), .string (bs t.s), .int .i64 t.n, .bool t.q, .int .i64 (a : Int)] 60)); have c1 := h2.c1; have f1 := h2.fr 1; have HB := Lib.hid hb; have hk := HK.out.grown (grown_below hb none) (by simp); have HK1 := Lib.hid hk; have HH1 := Lib.hid h1; have hS := grown_set (World.grownBy.refl (w1.alloc (.cells #[.int .i64 (t.k : Int), .string (bs t.s), .int .i64 t.n, .bool t.q, .int .i64 (a : Int)] 60)) (some P)) 1 (.int .i64 ((nx : Int) + 1)); have hn2 := (IsTok.new (v0 := .int .i64 (t.k : Int)) (v1 := .string (bs t.s)) (v2 := .int .i64 t.n) (v3 := .bool t.q) (v4 := .int .i64 (a : Int)) w1).grown hS (by have := h1.lt; simp; omega); have n0 := hn2.c0; have n1 := hn2.c1; have n2 := hn2.c2; have n3 := hn2.c3; have n4 := hn2.c4; have hk2 := (hk.grown (World.grownBy_alloc _ (.cells #[.int .i64 (t.k : Int), .string (bs t.s), .int .i64 t.n, .bool t.q, .int .i64 (a : Int)] 60) none) (by simp)).grown hS (by have := HLT.out; simp; omega); have HK2 := Lib.hid hk2; have k0 := hk2.c0; have k1 := hk2.c1; have k2 := hk2.c2; have k3 := hk2.c3; have k4 := hk2.c4; have l0 := hk2.fr 0; have l1 := hk2.fr 1; have l2 := hk2.fr 2; have l3 := hk2.fr 3; have l4 := hk2.fr 4; clear hb h1 hk h2 hk2 hn2 hS))
  have hset := HK2.out.set (.int .i64 (t.k : Int)) (.string (bs t.s)) (.int .i64 t.n) (.bool t.q) (.int .i64 (a : Int))
  have r0 := hset.c0; have r1 := hset.c1; have r2 := hset.c2; have r3 := hset.c3; have r4 := hset.c4
  have HP1 := HH1.out.below ((Below.refl w1.heap.size w1).alloc (Nat.le_refl _) (.cells #[.int .i64 (t.k : Int), .string (bs t.s), .int .i64 t.n, .bool t.q, .int .i64 (a : Int)] 60))
  refine bodyPost_ret (v := tokA t a) (by simp [results, Tryd.results20, go_sem, r0, r1, r2, r3, r4, tokA]) rfl ⟨rfl, (HP1.setNext (nx + 1) hx).tokSet (by have := HLT.out; omega) ?_ _ _ _ _ _, ?_⟩
  · exact fun he => Nat.lt_irrefl _ (H0.out.old he)
  · exact grown_tokSet (grown_set (grown_trans (World.grownBy_alloc _ _ _) (grown_trans (grown_below HB.out _) (World.grownBy_alloc _ _ _))) _ _) (Nat.le_refl _) _ _ _ _ _

theorem bs_list (l : List UInt8) : (bs l).toList = l := by
  rw [ByteArray.toList_eq]
  rfl
set_option maxRecDepth 100000 in
theorem is_calls {P : Nat} {L : List TP} {N nx : Nat} {pl bad : Int} {A : Option Addr} {c : Nat} (mb : ByteArray) (v : Bool) (w : World) (h : PS P L N nx pl bad A c w) (hv : isM N (L.drop nx) 0 mb.data.toList = v) :
    Calls Tryd.prog 23 #[.pointer (some ⟨P, 0, none⟩), .string mb] w fun e w' => e = .returned (.bool v) ∧ Below w.heap.size w w' := by
  obtain ⟨⟨t, a⟩, hp⟩ : ∃ p, pk N (L.drop nx) 0 = p := ⟨_, rfl⟩
  unfold isM at hv
  rw [hp] at hv
  have H := Lib.hid h
  have HV := Lib.hid hv
  clear h hv
  cases hk : ((t.k : Int) == 4) with
  | false =>
    have HK := Lib.hid (show (t.k == 4) = false by cases h4 : (t.k == 4) with
      | false => rfl
      | true => simp at h4 hk; omega)
    go_enter Tryd.func23, Tryd.ntmps23
    go_wp2_with (go_at_call 16; ((with_reducible refine (peek0_calls t a _ H.out hp).mono ?_); rintro e w1 ⟨rfl, hb⟩; have HB := Lib.hid hb; clear hb))
    go_ret
    exact ⟨by rw [← HV.out, HK.out]; rfl, HB.out.alloc HB.out.size _⟩
  | true =>
    have HK := Lib.hid (show (t.k == 4) = true by simp at hk ⊢; omega)
    cases hs : ((bs t.s).toList == mb.toList) with
    | false =>
      have HS := Lib.hid (show (t.s == mb.data.toList) = false by rw [← ByteArray.toList_eq, ← bs_list t.s]; exact hs)
      go_enter Tryd.func23, Tryd.ntmps23
      go_wp2_with (go_at_call 16; ((with_reducible refine (peek0_calls t a _ H.out hp).mono ?_); rintro e w1 ⟨rfl, hb⟩; have HB := Lib.hid hb; clear hb))
      go_ret
      exact ⟨by rw [← HV.out, HK.out, HS.out]; rfl, HB.out.alloc HB.out.size _⟩
    | true =>
      have HS := Lib.hid (show (t.s == mb.data.toList) = true by rw [← ByteArray.toList_eq, ← bs_list t.s]; exact hs)
      go_enter Tryd.func23, Tryd.ntmps23
      go_wp2_with (go_at_call 16; ((with_reducible refine (peek0_calls t a _ H.out hp).mono ?_); rintro e w1 ⟨rfl, hb⟩; have HB := Lib.hid hb; clear hb))
      go_ret
      exact ⟨by rw [← HV.out, HK.out, HS.out]; rfl, HB.out.alloc HB.out.size _⟩
theorem pok_calls {P : Nat} {L : List TP} {N nx : Nat} {pl bad : Int} {A : Option Addr} {c : Nat} (v : Bool) (w : World) (h : PS P L N nx pl bad A c w) (hv : (bad == 0) = v) :
    Calls Tryd.prog 12 #[.pointer (some ⟨P, 0, none⟩)] w fun e w' => e = .returned (.bool v) ∧ w = w' := by
  have c4 := h.c4
  clear h
  cases v
  all_goals
    go_enter Tryd.func12, Tryd.ntmps12
    go_wp2
    go_ret
    exact ⟨rfl, rfl⟩
theorem fail_bad_calls {P : Nat} {L : List TP} {N nx : Nat} {pl bad : Int} {A : Option Addr} {c : Nat} (K : Int) (sb : ByteArray) (n : Int) (q : Bool) (a : Int) (e0 : Int) (w : World) (h : PS P L N nx pl bad A c w) (hv : (bad == 0) = false) :
    Calls Tryd.prog 15 #[.pointer (some ⟨P, 0, none⟩), .agg #[.int .i64 K, .string sb, .int .i64 n, .bool q, .int .i64 a], .int .i64 e0] w fun e w' => e = .returned (.tuple #[]) ∧ Below w.heap.size w w' := by
  have h2 := h.below ((Below.refl w.heap.size w).alloc (Nat.le_refl _) (.cells #[.int .i64 K, .string sb, .int .i64 n, .bool q, .int .i64 a] 60))
  have c4 := h2.c4
  clear h h2
  go_enter Tryd.func15, Tryd.ntmps15
  go_wp2_with fail
  go_end0
  exact ⟨rfl, (Below.refl w.heap.size w).alloc (Nat.le_refl _) _⟩
theorem fail_ok_calls {P : Nat} {L : List TP} {N nx : Nat} {pl : Int} {A : Option Addr} {c : Nat} (K : Int) (sb : ByteArray) (n : Int) (q : Bool) (a : Int) (e0 : Int) (w : World) (h : PS P L N nx pl 0 A c w) :
    Calls Tryd.prog 15 #[.pointer (some ⟨P, 0, none⟩), .agg #[.int .i64 K, .string sb, .int .i64 n, .bool q, .int .i64 a], .int .i64 e0] w fun e w' => e = .returned (.tuple #[]) ∧ PS P L N nx a e0 A c w' ∧ w.grownBy w' (some P) := by
  have h2 := h.below ((Below.refl w.heap.size w).alloc (Nat.le_refl _) (.cells #[.int .i64 K, .string sb, .int .i64 n, .bool q, .int .i64 a] 60))
  have c4 := h2.c4
  have c3 := h2.c3
  have f3 := h2.fr 3
  have f4 := h2.fr 4
  have H2 := Lib.hid h2
  clear h h2
  go_enter Tryd.func15, Tryd.ntmps15
  go_wp2_with fail
  go_end0
  exact ⟨rfl, H2.out.setBad _ _, grown_set (grown_set (World.grownBy_alloc _ _ _) _ _) _ _⟩
end Go.Proofs.YthhfjimhfehimaaDoor.V
