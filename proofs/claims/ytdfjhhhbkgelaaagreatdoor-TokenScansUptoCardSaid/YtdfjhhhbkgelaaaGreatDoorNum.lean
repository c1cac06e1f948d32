/- (*text).number: a number. -/
import Derived.Test.YtdfjhhhbkgelaaaGreatDoorSkip
import Derived.Test.YtdfjhhhbkgelaaaGreatDoorShelf
namespace Go.Proofs.YtdfjhhhbkgelaaaGreatDoor.V
set_option linter.unusedVariables false
set_option linter.unusedSimpArgs false
open Go.RowKit

/-- What the library's two errors are. -/
def ErrW (w : World) : Prop := (∃ ev, w.cell? ⟨3, 0, none⟩ = some ev ∧ ∃ te pe, ev = .iface te pe) ∧ (∃ ev, w.cell? ⟨2, 0, none⟩ = some ev ∧ ∃ te pe, ev = .iface te pe)
theorem ErrW.grown {w w' : World} {X : Nat} {s : ByteArray} {a : Nat} (h : ErrW w) (hT : IsText X s a w) (hg : w.grownBy w' (some X)) : ErrW w' := by
  obtain ⟨⟨e1, h1, t1, p1, q1⟩, ⟨e2, h2, t2, p2, q2⟩⟩ := h
  refine ⟨⟨e1, hg.cell h1 ?_, t1, p1, q1⟩, ⟨e2, hg.cell h2 ?_, t2, p2, q2⟩⟩
  · intro he
    have : 3 = X := by simpa using he
    have hc := hT.cell0
    rw [← this, h1, q1] at hc
    cases hc
  · intro he
    have : 2 = X := by simpa using he
    have hc := hT.cell0
    rw [← this, h2, q2] at hc
    cases hc
theorem ErrW.below {w w' : World} (h : ErrW w) (hb : Below w.heap.size w w') : ErrW w' := by
  obtain ⟨⟨e1, h1, q1⟩, ⟨e2, h2, q2⟩⟩ := h
  exact ⟨⟨e1, cell_below hb h1, q1⟩, ⟨e2, cell_below hb h2, q2⟩⟩
def errT (g : Lib.NumEnd Int) : Bool := match g with
  | .ok _ => false
  | _ => true
theorem bytes_below (w : World) (e : TypeId) (t : ByteArray) : Below w.heap.size w (Lib.bytesWorld w e t) := Lib.bytesWorld_below w e t
theorem pint_ok (t : ByteArray) (w : World) (ht : t.size ≤ 281474976710656) (v : Int) (h : Lib.parseIntB 64 t.data.toList = .ok v) : Calls Tryz.prog 56 #[.string t, .int .i64 10, .int .i64 64] w fun e w' =>
    e = .returned (.tuple #[.int .i64 v, .nilIface]) ∧ Below w.heap.size w w' := by
  have h3 := Tryz.strconv_ParseInt_10_at64_ok t (by omega) v h w
  refine h3.mono ?_
  rintro e w' ⟨rfl, hw⟩
  refine ⟨rfl, ?_⟩
  rcases hw with rfl | ⟨q, rfl⟩
  · exact Below.refl _ _
  · exact bytes_below _ _ _
theorem pint_err (t : ByteArray) (w : World) (hE : ErrW w) (ht : t.size ≤ 281474976710656) (h : errT (Lib.parseIntB 64 t.data.toList) = true) : Calls Tryz.prog 56 #[.string t, .int .i64 10, .int .i64 64] w fun e w' =>
    ∃ u te pe, e = .returned (.tuple #[.int .i64 u, .iface te pe]) ∧ Below w.heap.size w w' := by
  obtain ⟨⟨e1, h1, q1⟩, ⟨e2, h2, q2⟩⟩ := hE
  cases h4 : Lib.parseIntB 64 t.data.toList with
  | ok v => rw [h4] at h; cases h
  | range =>
    have h3 := Tryz.strconv_ParseInt_10_at64_range t ht h4 e1 w h1 (.inr q1)
    refine h3.mono ?_
    rintro e w' ⟨N, rfl, _, _, hb⟩
    exact ⟨_, _, _, rfl, hb⟩
  | _ =>
    have h3 := Tryz.strconv_ParseInt_10_at64_syntax t ht h4 e2 w h2 (.inr q2)
    refine h3.mono ?_
    rintro e w' ⟨N, rfl, _, _, hb⟩
    exact ⟨_, _, _, rfl, hb⟩

set_option maxRecDepth 100000 in
theorem number_calls (X : Nat) (s : ByteArray) (a : Nat) (w : World) (hT : IsText X s a w) (ha : a < s.size) (hs : s.size ≤ 65536) (hE : ErrW w) :
    Calls Tryz.prog 37 #[.pointer (some ⟨X, 0, none⟩)] w (OneIs X s (numL (s[a]'ha) (s.data.toList.drop (a + 1))) w) := by
  have hle := runB_le (P := figI) (s := s) (a := a + 1) ha
  have hlt := hT.lt
  have HA := Lib.hid (show a + 1 ≤ s.size from ha)
  have hT2 : IsText X s (a + 1) ((w.setCell ⟨X, 1, none⟩ (.int .i64 ((a + 1 : Nat) : Int))).alloc (.cells #[.int .i64 0, .string ⟨#[]⟩, .int .i64 0, .bool false, .int .i64 0] 35)) := (hT.set (a + 1)).grown (World.grownBy_alloc _ _ none) (by simp)
  have HK := Lib.hid (show IsTok w.heap.size (.int .i64 0) (.string ⟨#[]⟩) (.int .i64 0) (.bool false) (.int .i64 0) ((w.setCell ⟨X, 1, none⟩ (.int .i64 ((a + 1 : Nat) : Int))).alloc (.cells #[.int .i64 0, .string ⟨#[]⟩, .int .i64 0, .bool false, .int .i64 0] 35)) from by
    have := IsTok.new (v0 := .int .i64 0) (v1 := .string ⟨#[]⟩) (v2 := .int .i64 0) (v3 := .bool false) (v4 := .int .i64 0) (w.setCell ⟨X, 1, none⟩ (.int .i64 ((a + 1 : Nat) : Int)))
    rwa [show (w.setCell ⟨X, 1, none⟩ (.int .i64 ((a + 1 : Nat) : Int))).heap.size = w.heap.size by simp [World.setCell]] at this)
  have HG0 := Lib.hid (show w.grownBy ((w.setCell ⟨X, 1, none⟩ (.int .i64 ((a + 1 : Nat) : Int))).alloc (.cells #[.int .i64 0, .string ⟨#[]⟩, .int .i64 0, .bool false, .int .i64 0] 35)) (some X) from grown_trans (grown_set (World.grownBy.refl _ _) _ _) (World.grownBy_alloc _ _ _))
  have HE := Lib.hid ((hE.grown hT HG0.out))
  have t0 := (hT.grown (World.grownBy_alloc w (.cells #[.int .i64 0, .string ⟨#[]⟩, .int .i64 0, .bool false, .int .i64 0] 35) none) (by simp)).cell0
  have t1 := (hT.grown (World.grownBy_alloc w (.cells #[.int .i64 0, .string ⟨#[]⟩, .int .i64 0, .bool false, .int .i64 0] 35) none) (by simp)).cell1
  have f1 := (hT.grown (World.grownBy_alloc w (.cells #[.int .i64 0, .string ⟨#[]⟩, .int .i64 0, .bool false, .int .i64 0] 35) none) (by simp)).free 1
  have HT := Lib.hid hT2
  clear hT2
  have hle1 := hle.1
  have hle2 := hle.2
  clear hle
  have hle0 : a ≤ runB figI s (a + 1) := by omega
  have HEX := Lib.hid (show (s.extract a (runB figI s (a + 1))).data.toList = (s[a]'ha) :: (s.data.toList.drop (a + 1)).takeWhile (ofB figI) by
    rw [← runB_take figI s (a + 1)]
    simp only [ByteArray.data_extract, Array.toList_extract, List.extract]
    rw [drop_at ha, show runB figI s (a + 1) - a = (runB figI s (a + 1) - (a + 1)) + 1 by omega, List.take_succ_cons])
  have HSZ := Lib.hid (show (s.extract a (runB figI s (a + 1))).size ≤ 281474976710656 by
    have h1 : (s.extract a (runB figI s (a + 1))).size = min (runB figI s (a + 1)) s.size - a := by simp
    omega)
  have HD := Lib.hid (runB_drop figI s (a + 1))
  have HLE := Lib.hid hle2
  have HLT := Lib.hid hlt
  cases h4 : Lib.parseIntB 64 (s.extract a (runB figI s (a + 1))).data.toList with
  | ok v =>
    have HV := Lib.hid h4
    have HN := Lib.hid (show numL (s[a]'ha) (s.data.toList.drop (a + 1)) = .tok ⟨3, [], v, false⟩ ((s.data.toList.drop (a + 1)).dropWhile (ofB figI)) by
      unfold numL
      rw [← HEX.out, h4])
    clear h4
    go_enter Tryz.func37, Tryz.ntmps37
    go_wp2_with (go_at_call 29; ((with_reducible refine (run_calls en_fig tfig_calls X s (a + 1) _ ?_ HA.out hs).mono ?_); (focus (exact HT.out)); rintro e w1 ⟨rfl, ht1, hg1⟩; have HT1 := Lib.hid ht1; have c0' := ht1.cell0; have c1' := ht1.cell1; have C0 := Lib.hid c0'; have C1 := Lib.hid c1'; have HG1 := Lib.hid hg1; have hk1 := HK.out.grown hg1 (by simp; omega); have HK1 := Lib.hid hk1; have HE1 := Lib.hid (HE.out.grown HT.out hg1); clear hk1 ht1 hg1))
    go_region_held3 (fun W => W.cell? ⟨X, 0, none⟩ = some (.string s) ∧ W.cell? ⟨X, 1, none⟩ = some (.int .i64 (runB figI s (a + 1) : Int)) ∧ Below w1.heap.size w1 W)
      ((go_split_ands; refine ⟨?_, ?_, ?_⟩; (focus (first | with_reducible assumption | (refine cell_below (w := w1) ?_ C0.out; (focus (repeat (first | with_reducible assumption | with_reducible exact Below.refl _ _ | with_reducible apply Below.drew)))))); (focus (first | with_reducible assumption | (refine cell_below (w := w1) ?_ C1.out; (focus (repeat (first | with_reducible assumption | with_reducible exact Below.refl _ _ | with_reducible apply Below.drew)))))); (focus (repeat (first | with_reducible assumption | with_reducible exact Below.refl _ _ | with_reducible apply Below.drew)))))
      (first
        | (go_at_call 56; (with_reducible refine (pint_ok _ _ HSZ.out v HV.out).mono ?_); rintro e w2 ⟨rfl, hb⟩; (refine (have hbb : Below w1.heap.size w1 w2 := ?_; ?_); focus (refine below_then' ?_ hb (Nat.le_refl _); (focus (repeat (first | with_reducible assumption | with_reducible exact Below.refl _ _ | with_reducible apply Below.drew))))); have HB2 := Lib.hid hbb; clear hb))
    have hk2 := HK1.out.grown (grown_below HB2.out none) (by simp)
    have k0 := hk2.c0; have k1 := hk2.c1; have k2 := hk2.c2; have k3 := hk2.c3; have k4 := hk2.c4
    have l0 := hk2.fr 0; have l1 := hk2.fr 1; have l2 := hk2.fr 2; have l3 := hk2.fr 3; have l4 := hk2.fr 4
    have HK2 := Lib.hid hk2
    clear hk2
    go_wp2_with fail
    have hres := HK2.out.set (.int .i64 3) (.string ⟨#[]⟩) (.int .i64 v) (.bool false) (.int .i64 0)
    have HX := HLT.out
    have r0 := hres.c0; have r1 := hres.c1; have r2 := hres.c2; have r3 := hres.c3; have r4 := hres.c4
    refine bodyPost_ret (v := .tuple #[.agg #[.int .i64 3, .string ⟨#[]⟩, .int .i64 v, .bool false, .int .i64 0], .int .i64 0]) (by simp [results, Tryz.results37, go_sem, r0, r1, r2, r3, r4]) rfl ⟨grown_tokSet (grown_trans HG0.out (grown_trans HG1.out (grown_below HB2.out _))) (Nat.le_refl _) _ _ _ _ _, ?_⟩
    rw [HN.out]
    exact ⟨rfl, _, HLE.out, HD.out, (HT1.out.grown (grown_below HB2.out none) (by simp)).tokSet (by omega) _ _ _ _ _⟩
  | range =>
    have HV := Lib.hid (show errT (Lib.parseIntB 64 (s.extract a (runB figI s (a + 1))).data.toList) = true by rw [h4]; rfl)
    have HN := Lib.hid (show numL (s[a]'ha) (s.data.toList.drop (a + 1)) = .bad 3 by
      unfold numL
      rw [← HEX.out, h4])
    clear h4
    go_enter Tryz.func37, Tryz.ntmps37
    go_wp2_with (go_at_call 29; ((with_reducible refine (run_calls en_fig tfig_calls X s (a + 1) _ ?_ HA.out hs).mono ?_); (focus (exact HT.out)); rintro e w1 ⟨rfl, ht1, hg1⟩; have HT1 := Lib.hid ht1; have c0' := ht1.cell0; have c1' := ht1.cell1; have C0 := Lib.hid c0'; have C1 := Lib.hid c1'; have HG1 := Lib.hid hg1; have hk1 := HK.out.grown hg1 (by simp; omega); have HK1 := Lib.hid hk1; have HE1 := Lib.hid (HE.out.grown HT.out hg1); clear hk1 ht1 hg1))
    go_region_held3 (fun W => W.cell? ⟨X, 0, none⟩ = some (.string s) ∧ W.cell? ⟨X, 1, none⟩ = some (.int .i64 (runB figI s (a + 1) : Int)) ∧ Below w1.heap.size w1 W)
      ((go_split_ands; refine ⟨?_, ?_, ?_⟩; (focus (first | with_reducible assumption | (refine cell_below (w := w1) ?_ C0.out; (focus (repeat (first | with_reducible assumption | with_reducible exact Below.refl _ _ | with_reducible apply Below.drew)))))); (focus (first | with_reducible assumption | (refine cell_below (w := w1) ?_ C1.out; (focus (repeat (first | with_reducible assumption | with_reducible exact Below.refl _ _ | with_reducible apply Below.drew)))))); (focus (repeat (first | with_reducible assumption | with_reducible exact Below.refl _ _ | with_reducible apply Below.drew)))))
      (first
        | (go_at_call 56; (with_reducible refine (pint_err _ _ ?_ HSZ.out HV.out).mono ?_); (focus (refine HE1.out.below ?_; (focus (repeat (first | with_reducible assumption | with_reducible exact Below.refl _ _ | with_reducible apply Below.drew))))); rintro e w2 ⟨u, te, pe, rfl, hb⟩; (refine (have hbb : Below w1.heap.size w1 w2 := ?_; ?_); focus (refine below_then' ?_ hb (Nat.le_refl _); (focus (repeat (first | with_reducible assumption | with_reducible exact Below.refl _ _ | with_reducible apply Below.drew))))); have HB2 := Lib.hid hbb; clear hb))
    have hk2 := HK1.out.grown (grown_below HB2.out none) (by simp)
    have k0 := hk2.c0; have k1 := hk2.c1; have k2 := hk2.c2; have k3 := hk2.c3; have k4 := hk2.c4
    have l0 := hk2.fr 0; have l1 := hk2.fr 1; have l2 := hk2.fr 2; have l3 := hk2.fr 3; have l4 := hk2.fr 4
    have HK2 := Lib.hid hk2
    clear hk2
    go_wp2_with fail
    have hres := HK2.out.set (.int .i64 0) (.string ⟨#[]⟩) (.int .i64 0) (.bool false) (.int .i64 0)
    have HX := HLT.out
    have r0 := hres.c0; have r1 := hres.c1; have r2 := hres.c2; have r3 := hres.c3; have r4 := hres.c4
    refine bodyPost_ret (v := .tuple #[.agg #[.int .i64 0, .string ⟨#[]⟩, .int .i64 0, .bool false, .int .i64 0], .int .i64 3]) (by simp [results, Tryz.results37, go_sem, r0, r1, r2, r3, r4]) rfl ⟨grown_tokSet (grown_trans HG0.out (grown_trans HG1.out (grown_below HB2.out _))) (Nat.le_refl _) _ _ _ _ _, ?_⟩
    rw [HN.out]
    exact ⟨rfl, _, (HT1.out.grown (grown_below HB2.out none) (by simp)).tokSet (by omega) _ _ _ _ _⟩
  | _ =>
    have HV := Lib.hid (show errT (Lib.parseIntB 64 (s.extract a (runB figI s (a + 1))).data.toList) = true by rw [h4]; rfl)
    have HN := Lib.hid (show numL (s[a]'ha) (s.data.toList.drop (a + 1)) = .bad 3 by
      unfold numL
      rw [← HEX.out, h4])
    clear h4
    go_enter Tryz.func37, Tryz.ntmps37
    go_wp2_with (go_at_call 29; ((with_reducible refine (run_calls en_fig tfig_calls X s (a + 1) _ ?_ HA.out hs).mono ?_); (focus (exact HT.out)); rintro e w1 ⟨rfl, ht1, hg1⟩; have HT1 := Lib.hid ht1; have c0' := ht1.cell0; have c1' := ht1.cell1; have C0 := Lib.hid c0'; have C1 := Lib.hid c1'; have HG1 := Lib.hid hg1; have hk1 := HK.out.grown hg1 (by simp; omega); have HK1 := Lib.hid hk1; have HE1 := Lib.hid (HE.out.grown HT.out hg1); clear hk1 ht1 hg1))
    go_region_held3 (fun W => W.cell? ⟨X, 0, none⟩ = some (.string s) ∧ W.cell? ⟨X, 1, none⟩ = some (.int .i64 (runB figI s (a + 1) : Int)) ∧ Below w1.heap.size w1 W)
      ((go_split_ands; refine ⟨?_, ?_, ?_⟩; (focus (first | with_reducible assumption | (refine cell_below (w := w1) ?_ C0.out; (focus (repeat (first | with_reducible assumption | with_reducible exact Below.refl _ _ | with_reducible apply Below.drew)))))); (focus (first | with_reducible assumption | (refine cell_below (w := w1) ?_ C1.out; (focus (repeat (first | with_reducible assumption | with_reducible exact Below.refl _ _ | with_reducible apply Below.drew)))))); (focus (repeat (first | with_reducible assumption | with_reducible exact Below.refl _ _ | with_reducible apply Below.drew)))))
      (first
        | (go_at_call 56; (with_reducible refine (pint_err _ _ ?_ HSZ.out HV.out).mono ?_); (focus (refine HE1.out.below ?_; (focus (repeat (first | with_reducible assumption | with_reducible exact Below.refl _ _ | with_reducible apply Below.drew))))); rintro e w2 ⟨u, te, pe, rfl, hb⟩; (refine (have hbb : Below w1.heap.size w1 w2 := ?_; ?_); focus (refine below_then' ?_ hb (Nat.le_refl _); (focus (repeat (first | with_reducible assumption | with_reducible exact Below.refl _ _ | with_reducible apply Below.drew))))); have HB2 := Lib.hid hbb; clear hb))
    have hk2 := HK1.out.grown (grown_below HB2.out none) (by simp)
    have k0 := hk2.c0; have k1 := hk2.c1; have k2 := hk2.c2; have k3 := hk2.c3; have k4 := hk2.c4
    have l0 := hk2.fr 0; have l1 := hk2.fr 1; have l2 := hk2.fr 2; have l3 := hk2.fr 3; have l4 := hk2.fr 4
    have HK2 := Lib.hid hk2
    clear hk2
    go_wp2_with fail
    have hres := HK2.out.set (.int .i64 0) (.string ⟨#[]⟩) (.int .i64 0) (.bool false) (.int .i64 0)
    have HX := HLT.out
    have r0 := hres.c0; have r1 := hres.c1; have r2 := hres.c2; have r3 := hres.c3; have r4 := hres.c4
    refine bodyPost_ret (v := .tuple #[.agg #[.int .i64 0, .string ⟨#[]⟩, .int .i64 0, .bool false, .int .i64 0], .int .i64 3]) (by simp [results, Tryz.results37, go_sem, r0, r1, r2, r3, r4]) rfl ⟨grown_tokSet (grown_trans HG0.out (grown_trans HG1.out (grown_below HB2.out _))) (Nat.le_refl _) _ _ _ _ _, ?_⟩
    rw [HN.out]
    exact ⟨rfl, _, (HT1.out.grown (grown_below HB2.out none) (by simp)).tokSet (by omega) _ _ _ _ _⟩
end Go.Proofs.YtdfjhhhbkgelaaaGreatDoor.V
