/- lambrequinlaw05.TokenJoins. -/
import Derived.Test.YtdfjhhhbkgelaaaGreatDoorBack
import Derived.Test.YtdfjhhhbkgelaaaGreatDoorPlace
namespace Go.Proofs.YtdfjhhhbkgelaaaGreatDoor.V
set_option linter.unusedVariables false
set_option linter.unusedSimpArgs false
open Go.RowKit

/-- As scan_yes; of no token nothing is laid. -/
theorem scan_yes0 {L : List TP'} (n : Nat) (hn : n = L.length) (s : ByteArray) (w : World) (hs : s.size ≤ 9223372036854775807) (hE : ErrW w) (h : scanL s.data.toList = .ok L) :
    Calls Tryz.prog 11 #[.string s] w fun e w' => Below w.heap.size w w' ∧ ∃ A c, e = .returned (.tuple #[.slice A n c, .int .i64 0, .int .i64 0]) ∧ w'.ownsRow w.heap.size 35 5 (.slice A n c) n (tokCells L) ∧ n ≤ 65536 ∧ (n = 0 → A = none ∧ c = 0) := by
  subst hn
  refine (scan_calls s w hs hE).mono ?_
  rintro e w' ⟨hb, hp⟩
  rw [h] at hp
  obtain ⟨v, rfl, ho, h0, hl⟩ := hp
  obtain ⟨A, c, rfl⟩ := o_slice ho
  refine ⟨hb, A, c, rfl, ho, hl, fun hz => ?_⟩
  have := h0 (List.length_eq_zero_iff.1 hz)
  injection this with h1 _ h2
  exact ⟨h1, h2⟩

theorem wpList_want {P : Program} {ops : Array Oper} {rest : List Oper} {o : Oper} {a : Act} {Q : Exit → Act → World → Prop} {w : World} (hw : Region.wanted o (yielded ops a.tmps) = true)
    (h : ∀ K : Act → World → Prop, (∀ a w, wpList P ops Q rest a w → K a w) → o.wp P a w K Q) : wpList P ops Q (o :: rest) a w :=
  wpList_step fun K hK => by
    rw [if_pos hw]
    exact h K hK
theorem tokCells_one (L : List TP') : ∀ u ∈ tokCells L, u.oneCell' = true := by
  intro u hu
  unfold tokCells at hu
  obtain ⟨p, _, hp⟩ := List.mem_flatMap.1 hu
  simp only [tokC, List.mem_cons, List.mem_nil_iff, or_false] at hp
  rcases hp with rfl | rfl | rfl | rfl | rfl <;> rfl
/-- Tokens behind tokens, where the operation is wanted. -/
theorem wapp {ops : Array Oper} {rest : List Oper} {o : Oper} {a : Act} {Q : Exit → Act → World → Prop} {w : World} (hw : Region.wanted o (yielded ops a.tmps) = true) (s x : Operand)
    (ho : o.op = .call { callee := .builtin .append, args := #[s, x], argTypes := #[23, 23] })
    (base : Nat) (v : Value) (n : Nat) (xs : List TP') (hs : a.eval s = v) (hown : w.ownsRow base 35 5 v n (tokCells xs))
    (A : Option Addr) (m c : Nat) (ys : List TP') (B2 : Nat) (hx : a.eval x = .slice A m c) (hrow : w.ownsRow B2 35 5 (.slice A m c) m (tokCells ys)) (h0 : m = 0 → A = none ∧ c = 0)
    (hn : n + m ≤ 200000) (hbase : base ≤ w.heap.size)
    (h : ∀ A' c' w', w'.ownsRow base 35 5 (.slice A' (n + m) c') (n + m) (tokCells (xs ++ ys)) → w.grownBy w' v.ownBlock → wpList Tryz.prog ops Q rest (a.put o.dst (.slice A' (n + m) c')) w') :
    wpList Tryz.prog ops Q (o :: rest) a w := by
  obtain ⟨i, hi, hz0, hz1, hz2⟩ := info_parts tok_info
  refine wpList_want hw fun K hK => ?_
  by_cases hm : m = 0
  · obtain ⟨rfl, rfl⟩ := h0 hm
    subst hm
    have hy : ys = [] := by
      have := hrow.1
      rw [tokCells_length] at this
      exact List.length_eq_zero_iff.1 (by omega)
    subst hy
    have hr := run_append_owned_none (P := Tryz.prog) (w := w) base 23 o.type 35 i 5 Tryz.underlying23 hi v n _ hown
    obtain ⟨A', c', rfl⟩ := o_slice hown
    unfold Oper.wp execOp
    simp only [ho, resolve, invoke, builtin, Sem.run_bind, Sem.run_pure, Result.andThen_ok, List.map_toArray, List.map_cons, List.map_nil, hs, hx, hr]
    refine hK _ _ (h A' c' w ?_ ⟨rfl, rfl, rfl, Nat.le_refl _, fun _ _ _ => rfl⟩)
    rw [List.append_nil]
    exact hown
  · obtain ⟨g, rfl, hc⟩ := o_at hrow (by omega)
    have hl : (tokCells ys).length = m * 5 := hrow.1
    obtain ⟨v', w', hr, h2, h3, h4, h5⟩ := run_append_own_at (P := Tryz.prog) w base 23 o.type 35 i _ 5 48 Tryz.underlying23 hi hz0 hz1 hz2 rfl (by decide) v n _ hown ⟨g, 0, none⟩ m c (tokCells ys) hl (fun j u hu => by rw [addr_add]; exact hc j u hu) (tokCells_one ys) (by unfold maxLen; omega) (by omega) hbase
    obtain ⟨A', c', rfl⟩ := o_slice h2
    unfold Oper.wp execOp
    simp only [ho, resolve, invoke, builtin, Sem.run_bind, Sem.run_pure, Result.andThen_ok, List.map_toArray, List.map_cons, List.map_nil, hs, hx, hr]
    refine hK _ _ (h A' c' w' ?_ h3)
    rw [show tokCells (xs ++ ys) = tokCells xs ++ tokCells ys by unfold tokCells; rw [List.flatMap_append]]
    exact h2
theorem own_ge {W : World} {B e z n : Nat} {v : Value} {xs : List Value} (h : W.ownsRow B e z v n xs) : ∀ k, v.ownBlock = some k → B ≤ k := fun k hk => (h.lt k hk).1
/-- What lies below a place is not touched by what lies above. -/
theorem own_far2 {W W' : World} {B e z n G : Nat} {v : Value} {xs : List Value} {row : Option Nat} (h : W.ownsRow B e z v n xs) (hg : W.grownBy W' row) (hG : ∀ k, v.ownBlock = some k → k < G) (hr : ∀ k, row = some k → G ≤ k) : W'.ownsRow B e z v n xs := by
  refine h.kept hg ?_
  cases hv : v.ownBlock with
  | none => exact .inl rfl
  | some k =>
    refine .inr fun e => ?_
    have h1 := hG k hv
    have h2 := hr k e.symm
    omega
theorem own_none (w : World) : (w.alloc (.cells #[] 35)).ownsRow w.heap.size 35 5 (.slice (some ⟨w.heap.size, 0, none⟩) 0 0) 0 (tokCells []) :=
  ⟨rfl, .inr ⟨w.heap.size, 0, _, rfl, Nat.le_refl _, heap_alloc_new w _, Nat.le_refl _, by decide, rfl, rfl⟩⟩

set_option maxRecDepth 100000 in
set_option maxHeartbeats 16000000 in
theorem joins_calls (s t : ByteArray) (w : World) (hs : s.size ≤ 1048576) (ht : t.size ≤ 1048576) (hE : ErrW w) (hw : TabW w) :
    Calls Tryz.prog 6 #[.string s, .string t] w fun e w' => e = .returned (.bool true) ∧ Below w.heap.size w w' := by
  have HE := Lib.hid hE
  have HW := Lib.hid hw
  clear hE hw
  by_cases h8 : 8000 < s.size
  · have hd8 : decide ((8000 : Int) < (s.size : Int)) = true := decide_eq_true (by omega)
    go_enter Tryz.func6, Tryz.ntmps6
    go_wp2_with (go_at_call 10; ((with_reducible refine (shown5_calls _ HE.out HW.out).mono ?_); rintro e w1 ⟨rfl, hb1⟩; have HB1 := Lib.hid hb1; clear hb1))
    go_ret
    exact ⟨rfl, HB1.out⟩
  · have hd8 : decide ((8000 : Int) < (s.size : Int)) = false := decide_eq_false (by omega)
    by_cases h9 : 8000 < t.size
    · have hd9 : decide ((8000 : Int) < (t.size : Int)) = true := decide_eq_true (by omega)
      go_enter Tryz.func6, Tryz.ntmps6
      go_wp2_with (go_at_call 10; ((with_reducible refine (shown5_calls _ HE.out HW.out).mono ?_); rintro e w1 ⟨rfl, hb1⟩; have HB1 := Lib.hid hb1; clear hb1))
      go_ret
      exact ⟨rfl, HB1.out⟩
    · have hd9 : decide ((8000 : Int) < (t.size : Int)) = false := decide_eq_false (by omega)
      have hss : s.data.toList.length = s.size := by simp
      have htt : t.data.toList.length = t.size := by simp
      have hS9 : (s ++ ⟨#[10]⟩).size ≤ 9223372036854775807 := by rw [ByteArray.size_append]; have : (⟨#[10]⟩ : ByteArray).size = 1 := rfl; omega
      have hT9 : t.size ≤ 9223372036854775807 := by omega
      have hU9 : ((s ++ ⟨#[10]⟩) ++ t).size ≤ 9223372036854775807 := by rw [ByteArray.size_append, ByteArray.size_append]; have : (⟨#[10]⟩ : ByteArray).size = 1 := rfl; omega
      have hadd1 : ∀ w, (Op.stringOp .add s ⟨#[10]⟩).run Tryz.prog w = .ok (.string (s ++ ⟨#[10]⟩)) w := fun w => run_string_add_sum w _ _ (by have : (⟨#[10]⟩ : ByteArray).size = 1 := rfl; omega)
      have hadd2 : ∀ w, (Op.stringOp .add (s ++ ⟨#[10]⟩) t).run Tryz.prog w = .ok (.string ((s ++ ⟨#[10]⟩) ++ t)) w := fun w => run_string_add_sum w _ _ (by rw [ByteArray.size_append]; have : (⟨#[10]⟩ : ByteArray).size = 1 := rfl; omega)
      have eS : (s ++ ⟨#[10]⟩).data.toList = s.data.toList ++ [10] := by rw [ByteArray.data_append, Array.toList_append]
      have eU : ((s ++ ⟨#[10]⟩) ++ t).data.toList = s.data.toList ++ 10 :: t.data.toList := by rw [ByteArray.data_append, Array.toList_append, eS, List.append_assoc]; rfl
      have hj := scanL_join s.data.toList t.data.toList (by omega)
      rw [← eS, ← eU] at hj
      have hend := scanL_end s.data.toList (by omega)
      rw [← eS] at hend
      cases hp : scanL (s ++ ⟨#[10]⟩).data.toList with
      | bad a m =>
        have hm : ((m : Int) != 0) = true := by have := scanL_err hp; simp; omega
        have hmm : ((m : Int) == (m : Int)) = true := by simp
        have ha := hend a m hp
        have hle : decide ((a : Int) ≤ (s.size : Int)) = true := decide_eq_true (by omega)
        have hle' : decide (a ≤ s.size) = true := decide_eq_true (by omega)
        rw [hp] at hj
        have HP := Lib.hid hp
        have HJ := Lib.hid (show scanL ((s ++ ⟨#[10]⟩) ++ t).data.toList = .bad a m from hj)
        have HTS := Lib.hid (fun (W : World) (hE : ErrW W) => (show Calls Tryz.prog 11 #[.string t] W (fun e w' => Below W.heap.size W w' ∧ ∃ A n c x y, e = .returned (.tuple #[.slice A n c, .int .i64 x, .int .i64 y])) from by
          cases ht : scanL t.data.toList with
          | bad a m =>
            refine (scan_no t W hT9 hE ht).mono ?_
            rintro e w' ⟨hb, rfl⟩
            exact ⟨hb, _, _, _, _, _, rfl⟩
          | ok L =>
            refine (scan_yes L.length rfl t W hT9 hE ht).mono ?_
            rintro e w' ⟨hb, A, c, rfl, _⟩
            exact ⟨hb, _, _, _, _, _, rfl⟩))
        clear hp hj hend eS eU ha hss htt
        go_enter Tryz.func6, Tryz.ntmps6
        go_wp2_with (first
          | (go_at_call 10; ((with_reducible refine (shown5_calls _ HE.out HW.out).mono ?_); rintro e w1 ⟨rfl, hb1⟩; have HB1 := Lib.hid hb1; have HE1 := Lib.hid (HE.out.below hb1); clear hb1))
          | (go_at_call 11; ((with_reducible refine (scan_no (s ++ ⟨#[10]⟩) _ hS9 HE1.out HP.out).mono ?_); rintro e w2 ⟨hb2, rfl⟩; have HB2 := Lib.hid (HB1.out.trans (hb2.mono HB1.out.size)); have HE2 := Lib.hid (HE1.out.below hb2); clear hb2))
          | (go_at_call 11; ((with_reducible refine (HTS.out _ HE2.out).mono ?_); rintro e w3 ⟨hb3, A, n, c, x, y, rfl⟩; have HB3 := Lib.hid (HB2.out.trans (hb3.mono HB2.out.size)); have HE3 := Lib.hid (HE2.out.below hb3); clear hb3))
          | (go_at_call 11; ((with_reducible refine (scan_no _ _ hU9 HE3.out HJ.out).mono ?_); rintro e w4 ⟨hb4, rfl⟩; have HB4 := Lib.hid (HB3.out.trans (hb4.mono HB3.out.size)); clear hb4)))
        go_ret
        exact ⟨rfl, HB4.out⟩
      | ok L =>
        rw [hp] at hj
        cases hq : scanL t.data.toList with
        | bad a m =>
          have hm : ((m : Int) != 0) = true := by have := scanL_err hq; simp; omega
          have hmm : ((m : Int) == (m : Int)) = true := by simp
          have hlt : decide ((s.size : Int) < ((a + (s.data.toList.length + 1) : Nat) : Int)) = true := decide_eq_true (by omega)
          rw [hq] at hj
          have HP := Lib.hid hp
          have HQ := Lib.hid hq
          have HJ := Lib.hid (show scanL ((s ++ ⟨#[10]⟩) ++ t).data.toList = .bad (a + (s.size + 1)) m from by rw [← hss]; exact hj)
          have hlt : decide ((s.size : Int) < (a : Int) + ((s.size : Int) + 1)) = true := decide_eq_true (by omega)
          have hlt' : decide (s.size < a + (s.size + 1)) = true := decide_eq_true (by omega)
          obtain ⟨n, hn⟩ : ∃ n, n = L.length := ⟨_, rfl⟩
          have HPY := Lib.hid (fun (W : World) (hE : ErrW W) => scan_yes n hn (s ++ ⟨#[10]⟩) W hS9 hE hp)
          clear hp hj hend eS eU hss htt hq hn
          go_enter Tryz.func6, Tryz.ntmps6
          go_wp2_with (first
            | (go_at_call 10; ((with_reducible refine (shown5_calls _ HE.out HW.out).mono ?_); rintro e w1 ⟨rfl, hb1⟩; have HB1 := Lib.hid hb1; have HE1 := Lib.hid (HE.out.below hb1); clear hb1))
            | (go_at_call 11; ((with_reducible refine (HPY.out _ HE1.out).mono ?_); rintro e w2 ⟨hb2, A, c, rfl, _, _⟩; have HB2 := Lib.hid (HB1.out.trans (hb2.mono HB1.out.size)); have HE2 := Lib.hid (HE1.out.below hb2); clear hb2))
            | (go_at_call 11; ((with_reducible refine (scan_no t _ hT9 HE2.out HQ.out).mono ?_); rintro e w3 ⟨hb3, rfl⟩; have HB3 := Lib.hid (HB2.out.trans (hb3.mono HB2.out.size)); have HE3 := Lib.hid (HE2.out.below hb3); clear hb3))
            | (go_at_call 11; ((with_reducible refine (scan_no _ _ hU9 HE3.out HJ.out).mono ?_); rintro e w4 ⟨hb4, rfl⟩; have HB4 := Lib.hid (HB3.out.trans (hb4.mono HB3.out.size)); clear hb4)))
          go_ret
          exact ⟨rfl, HB4.out⟩
        | ok M =>
          rw [hq] at hj
          have hj2 : scanL ((s ++ ⟨#[10]⟩) ++ t).data.toList = .ok (L ++ M.map fun p => (p.1, p.2 + (s.data.toList.length + 1))) := hj
          obtain ⟨R, hR⟩ : ∃ R, (L ++ M.map fun p => (p.1, p.2 + (s.data.toList.length + 1))) = R := ⟨_, rfl⟩
          rw [hR] at hj2
          obtain ⟨n, hn⟩ : ∃ n, n = L.length := ⟨_, rfl⟩
          obtain ⟨m, hm⟩ : ∃ m, m = M.length := ⟨_, rfl⟩
          have hr : n + m = R.length := by rw [← hR, List.length_append, List.length_map, hn, hm]
          have hRR : R.map Prod.fst = (L ++ M).map Prod.fst := by rw [← hR]; simp
          have HPY := Lib.hid (fun (W : World) (hE : ErrW W) => scan_yes0 n hn (s ++ ⟨#[10]⟩) W hS9 hE hp)
          have HPZ := Lib.hid (fun (W : World) (hE : ErrW W) => scan_yes0 m hm t W hT9 hE hq)
          have HPJ := Lib.hid (fun (W : World) (hE : ErrW W) => scan_yes (n + m) hr ((s ++ ⟨#[10]⟩) ++ t) W hU9 hE hj2)
          have HN := Lib.hid hn
          have HM := Lib.hid hm
          have HR := Lib.hid hr
          have HRR := Lib.hid hRR
          clear hp hj hend eS eU hss htt hq hj2 hR hn hm hr hRR
          go_enter Tryz.func6, Tryz.ntmps6
          go_wp2_with (first
            | (go_at_call 10; ((with_reducible refine (shown5_calls _ HE.out HW.out).mono ?_); rintro e w1 ⟨rfl, hb1⟩; have HB1 := Lib.hid hb1; have HE1 := Lib.hid (HE.out.below hb1); clear hb1))
            | (go_at_call 11; ((with_reducible refine (HPY.out _ HE1.out).mono ?_); rintro e w2 ⟨hb2, A, c, rfl, ho, hn6, hn0⟩; have HB2 := Lib.hid (HB1.out.trans (hb2.mono HB1.out.size)); have HE2 := Lib.hid (HE1.out.below hb2); have HO := Lib.hid ho; have HN6 := Lib.hid hn6; have HN0 := Lib.hid hn0; clear hb2 ho hn6 hn0))
            | (go_at_call 11; ((with_reducible refine (HPZ.out _ HE2.out).mono ?_); rintro e w3 ⟨hb3, A2, c2, rfl, ho, hm6, hm0⟩; have HB3 := Lib.hid (HB2.out.trans (hb3.mono HB2.out.size)); have HE3 := Lib.hid (HE2.out.below hb3); have HB23 := Lib.hid hb3; have HO2 := Lib.hid ho; have HM6 := Lib.hid hm6; have HM0 := Lib.hid hm0; clear hb3 ho hm6 hm0))
            | (go_at_call 11; ((with_reducible refine (HPJ.out _ HE3.out).mono ?_); rintro e w4 ⟨hb4, A3, c3, rfl, ho, hr6⟩; have HB4 := Lib.hid (HB3.out.trans (hb4.mono HB3.out.size)); have HB34 := Lib.hid hb4; have HO3 := Lib.hid ho; have HR6 := Lib.hid hr6; have HM5 := Lib.hid (fun (w5 : World) (hg : (w4.alloc (.cells #[] 35)).grownBy w5 (Value.ownBlock (.slice (some ⟨w4.heap.size, 0, none⟩) 0 0))) => own_far2 (o_kb (o_kb HO2.out hb4) ((Below.refl w4.heap.size w4).alloc (Nat.le_refl _) (.cells #[] 35))) hg (fun k hk => ((o_kb HO2.out hb4).lt k hk).2) (own_ge (own_none w4))); have HR65 := Lib.hid (fun (w5 w6 : World) (A5 : Option Addr) (c5 : Nat) (h5 : w5.ownsRow w4.heap.size 35 5 (.slice A5 n c5) n (tokCells L)) (hg5 : (w4.alloc (.cells #[] 35)).grownBy w5 (Value.ownBlock (.slice (some ⟨w4.heap.size, 0, none⟩) 0 0))) (hg6 : w5.grownBy w6 (Value.ownBlock (.slice A5 n c5))) => own_far2 (own_far2 (o_kb ho ((Below.refl w4.heap.size w4).alloc (Nat.le_refl _) (.cells #[] 35))) hg5 (fun k hk => (ho.lt k hk).2) (own_ge (own_none w4))) hg6 (fun k hk => (ho.lt k hk).2) (own_ge h5)); clear hb4 ho hr6))
            | (at_builtin; (refine wapp (by rfl) _ _ rfl w4.heap.size (.slice (some ⟨w4.heap.size, 0, none⟩) 0 0) 0 [] rfl (own_none w4) _ n _ L _ rfl (o_kb (o_kb (o_kb HO.out HB23.out) HB34.out) ((Below.refl w4.heap.size w4).alloc (Nat.le_refl _) _)) HN0.out (by have := HN6.out; omega) (by simp) ?_); intro A5 c5 w5 hown5 hg5; rw [Nat.zero_add, List.nil_append] at hown5; have HO5 := Lib.hid hown5; have HG5 := Lib.hid hg5; clear hown5 hg5)
            | (at_builtin; (refine wapp (by rfl) _ _ rfl w4.heap.size (.slice A5 n c5) n L rfl HO5.out _ m _ M _ rfl (HM5 w5 HG5.out) HM0.out (by have := HN6.out; have := HM6.out; omega) (by have := HG5.out.size; simp at this; omega) ?_); intro A6 c6 w6 hown6 hg6; have HO6 := Lib.hid hown6; have HG6 := Lib.hid hg6; clear hown6 hg6)
            | (go_at_call 13; ((with_reducible refine (same5_calls false A3 A6 (n + m) c3 c6 (R.map gtOf) ((L ++ M).map gtOf) w6 (by rw [List.length_map]; exact HR.out) (by rw [List.length_map, List.length_append, ← HN.out, ← HM.out]) (by have := HR6.out; omega) (toks_row (HR65.out w5 w6 A5 c5 HO5.out HG5.out HG6.out) HR.out) (toks_row HO6.out (by rw [List.length_append, ← HN.out, ← HM.out])) (sameG_of HRR.out)).mono ?_); rintro e w7 ⟨rfl, hb7⟩; have HB7 := Lib.hid hb7; clear hb7)))
          go_ret
          have h5 := (HB4.out.alloc HB4.out.size (.cells #[] 35)).grown HG5.out (Nat.le_trans HB4.out.size (by simp)) (fun k hk => Nat.le_trans HB4.out.size (own_ge (own_none w4) k hk))
          have h6 := h5.grown HG6.out h5.size (fun k hk => Nat.le_trans HB4.out.size (own_ge HO5.out k hk))
          exact ⟨rfl, h6.trans (HB7.out.mono h6.size)⟩
end Go.Proofs.YtdfjhhhbkgelaaaGreatDoor.V
