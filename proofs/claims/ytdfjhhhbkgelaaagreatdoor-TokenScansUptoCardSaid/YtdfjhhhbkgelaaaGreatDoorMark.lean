/- (*text).mark: a mark of one byte, or of two. -/
import Derived.Test.YtdfjhhhbkgelaaaGreatDoorNum
namespace Go.Proofs.YtdfjhhhbkgelaaaGreatDoor.V
set_option linter.unusedVariables false
set_option linter.unusedSimpArgs false
open Go.RowKit

theorem en_two : ∀ args w, (callFunc 53 args).run Tryz.prog w = .ok (.enter 53 args) w := enters_of Tryz.func53 (by kernel_rfl) rfl
theorem two_calls (R : Nat) (r p : ByteArray) (w : World) (hR : w.cell? ⟨R, 0, none⟩ = some (.string r)) :
    Calls Tryz.prog 53 #[.string p, .pointer (some ⟨R, 0, none⟩)] w fun e w' => e = .returned (.bool (Lib.hasPrefix r.data.toList p.data.toList)) ∧ w' = w := by
  go_enter Tryz.func53, Tryz.ntmps53
  go_wp2_with (go_at_call 31; (with_reducible refine (Tryz.strings_HasPrefix _ _ _).mono ?_); rintro e w' ⟨rfl, rfl⟩)
  go_ret
  exact ⟨rfl, rfl⟩
def marks4 : List ByteArray := [⟨#[58, 45]⟩, ⟨#[60, 61]⟩, ⟨#[62, 61]⟩, ⟨#[33, 61]⟩]
theorem any_two (l : List UInt8) : ((marks4.take 4).any fun t => Lib.hasPrefix l t.data.toList) = markTwo l := by
  unfold markTwo marks4 Lib.hasPrefix
  simp [Bool.or_assoc]
theorem contains_calls (R b : Nat) (r : ByteArray) (w : World) (hR : w.cell? ⟨R, 0, none⟩ = some (.string r)) (hb : w.heap[b]? = some (.cells #[.string ⟨#[58, 45]⟩, .string ⟨#[60, 61]⟩, .string ⟨#[62, 61]⟩, .string ⟨#[33, 61]⟩] 9 (0, 0))) :
    Calls Tryz.prog 52 #[.slice (some ⟨b, 0, none⟩) 4 4, .func (.func 53) #[] #[.pointer (some ⟨R, 0, none⟩)]] w fun e w' =>
      e = .returned (.bool (markTwo r.data.toList)) ∧ Below w.heap.size w w' := by
  rw [← any_two]
  refine Calls.mono (R := fun e w' => e = .returned (.bool ((marks4.take 4).any fun t => Lib.hasPrefix r.data.toList t.data.toList)) ∧ ∃ q, w' = w.drewN q) ?_ (fun e w' h => ⟨h.1, by obtain ⟨q, rfl⟩ := h.2; exact below_drewN' (Below.refl _ _) q⟩)
  refine Tryz.slices_ContainsFunc Value.string _ 53 _ en_two b 0 4 4 marks4 w ?_ (by decide) (by decide) ?_
  · intro W x hbel
    refine (two_calls R r x W (cell_below hbel hR)).mono ?_
    rintro e w' ⟨rfl, rfl⟩
    exact ⟨rfl, 0, rfl⟩
  · intro j hj
    match j, hj with
    | 0, _ => exact cell_of_row w b 0 _ _ _ hb
    | 1, _ => exact cell_of_row w b 1 _ _ _ hb
    | 2, _ => exact cell_of_row w b 2 _ _ _ hb
    | 3, _ => exact cell_of_row w b 3 _ _ _ hb
theorem index_one (c : UInt8) : decide (Lib.indexByte [40, 41, 44, 46, 47, 60, 62, 61] c < 0) = !markOne c := by
  unfold markOne
  simp only [Lib.indexByte]
  by_cases h1 : c = 40
  · subst h1; decide
  · by_cases h2 : c = 41
    · subst h2; decide
    · by_cases h3 : c = 44
      · subst h3; decide
      · by_cases h4 : c = 46
        · subst h4; decide
        · by_cases h5 : c = 47
          · subst h5; decide
          · by_cases h6 : c = 60
            · subst h6; decide
            · by_cases h7 : c = 62
              · subst h7; decide
              · by_cases h8 : c = 61
                · subst h8; decide
                · have e1 : (40 == c) = false := by simpa using Ne.symm h1
                  have e2 : (41 == c) = false := by simpa using Ne.symm h2
                  have e3 : (44 == c) = false := by simpa using Ne.symm h3
                  have e4 : (46 == c) = false := by simpa using Ne.symm h4
                  have e5 : (47 == c) = false := by simpa using Ne.symm h5
                  have e6 : (60 == c) = false := by simpa using Ne.symm h6
                  have e7 : (62 == c) = false := by simpa using Ne.symm h7
                  have e8 : (61 == c) = false := by simpa using Ne.symm h8
                  simp [e1, e2, e3, e4, e5, e6, e7, e8, h1, h2, h3, h4, h5, h6, h7, h8]

theorem two_len {r : ByteArray} (h : markTwo r.data.toList = true) : 2 ≤ r.size := by
  have hl : r.data.toList.length = r.size := by simp
  match hL : r.data.toList with
  | [] => rw [hL] at h; simp [markTwo] at h
  | [c] => rw [hL] at h; simp [markTwo, List.isPrefixOf] at h
  | _ :: _ :: _ => rw [hL] at hl; simp at hl; omega
/-- What the scanner of marks has laid: the token's block, the rest's. -/
structure MarkW (X : Nat) (s : ByteArray) (a : Nat) (r : ByteArray) (w W : World) : Prop where
  x : IsText X s a W
  k : IsTok w.heap.size (.int .i64 0) (.string ⟨#[]⟩) (.int .i64 0) (.bool false) (.int .i64 0) W
  r : W.cell? ⟨w.heap.size + 1, 0, none⟩ = some (.string r)
  g : w.grownBy W (some X)
theorem MarkW.start {X : Nat} {s : ByteArray} {a : Nat} {w : World} (h : IsText X s a w) (r : ByteArray) : MarkW X s a r w ((w.alloc (.cells #[.int .i64 0, .string ⟨#[]⟩, .int .i64 0, .bool false, .int .i64 0] 35)).alloc (.cells #[.string r] 9)).drew where
  x := ((h.grown (World.grownBy_alloc _ _ none) (by simp)).grown (World.grownBy_alloc _ _ none) (by simp)).drew
  k := ((IsTok.new w).grown (row := none) (World.grownBy_alloc _ (.cells #[.string r] 9) none) (by simp)).grown (row := none) (grown_drew (World.grownBy.refl _ _)) (by simp)
  r := by
    have := cell_of_row _ _ 0 _ _ _ (heap_alloc_new (w.alloc (.cells #[.int .i64 0, .string ⟨#[]⟩, .int .i64 0, .bool false, .int .i64 0] 35)) (.cells #[.string r] 9))
    rw [show (w.alloc (.cells #[.int .i64 0, .string ⟨#[]⟩, .int .i64 0, .bool false, .int .i64 0] 35)).heap.size = w.heap.size + 1 by simp] at this
    exact this
  g := grown_drew (grown_trans (World.grownBy_alloc _ _ _) (World.grownBy_alloc _ _ _))
theorem MarkW.below {X : Nat} {s : ByteArray} {a : Nat} {r : ByteArray} {w W W' : World} (h : MarkW X s a r w W) (hb : Below W.heap.size W W') : MarkW X s a r w W' :=
  ⟨h.x.grown (grown_below hb none) (by simp), h.k.grown (grown_below hb none) (by simp), cell_below hb h.r, grown_trans h.g (grown_below hb _)⟩

set_option maxRecDepth 100000 in
theorem mark_calls (X : Nat) (s : ByteArray) (a : Nat) (w : World) (hT : IsText X s a w) (ha : a < s.size) (hs : s.size ≤ 65536) :
    Calls Tryz.prog 33 #[.pointer (some ⟨X, 0, none⟩)] w (OneIs X s (markL (s.data.toList.drop a)) w) := by
  have hlt := hT.lt
  have hx := hT.grown (World.grownBy_alloc w (.cells #[.int .i64 0, .string ⟨#[]⟩, .int .i64 0, .bool false, .int .i64 0] 35) none) (by simp)
  have x0 := hx.cell0
  have x1 := hx.cell1
  have HT := Lib.hid hT
  have HX := Lib.hid hx
  clear hT hx
  obtain ⟨r, hr⟩ : ∃ r, s.extract a s.size = r := ⟨_, rfl⟩
  have hrl : r.data.toList = s.data.toList.drop a := by
    rw [← hr]
    simp only [ByteArray.data_extract, Array.toList_extract, List.extract]
    rw [List.take_of_length_le (by simp)]
  have hrs : r.size = s.size - a := by rw [← hr]; simp
  have hr0 : 0 < r.size := by omega
  have hrc : r[0]'hr0 = s[a]'ha := by
    have h1 : r.data.toList[0]? = (s.data.toList.drop a)[0]? := by rw [hrl]
    rw [drop_at ha] at h1
    rw [show r.data.toList[0]? = some (r[0]'hr0) by simp [ByteArray.getElem_eq_getElem_data]] at h1
    simpa using h1
  have HR := Lib.hid hr
  have HRL := Lib.hid hrl
  have HRS := Lib.hid hrs
  obtain ⟨J, hJ⟩ : ∃ J, Lib.indexByte [40, 41, 44, 46, 47, 60, 62, 61] ((r[0]'hr0).toNat : Int).toNat.toUInt8 = J := ⟨_, rfl⟩
  have hJ2 : decide (J < 0) = !markOne s[a] := by
    rw [← hJ, ← hrc, ← index_one]
    simp
  have HJ := Lib.hid hJ
  have hhd : (s.data.toList.drop a).headD 0 = s[a] := by rw [drop_at ha]; rfl
  have HHD := Lib.hid hhd
  clear hr hrl hJ hrc hhd hrs
  cases hm : markTwo r.data.toList with
  | true =>
    have HM := Lib.hid hm
    have hrN : 2 ≤ r.size := two_len hm
    have HG := Lib.hid (show markL (s.data.toList.drop a) = .tok ⟨4, (s.data.toList.drop a).take 2, 0, false⟩ ((s.data.toList.drop a).drop 2) by
      unfold markL
      rw [← HRL.out, hm, if_pos rfl])
    have HTK := Lib.hid (show r.extract 0 2 = ⟨((s.data.toList.drop a).take 2).toArray⟩ by
      apply ByteArray.ext
      rw [← HRL.out]
      apply Array.ext'
      simp only [ByteArray.data_extract, Array.toList_extract, List.extract, List.drop_zero, Nat.sub_zero, List.toList_toArray])
    have HLE := Lib.hid (show a + 2 ≤ s.size by have := HRS.out; omega)
    clear hm hJ2
    go_enter Tryz.func33, Tryz.ntmps33
    go_wp2_with fail
    go_region
    rw [HR.out]
    have hW := MarkW.start HT.out r
    have HW := Lib.hid hW
    clear hW x0 x1
    generalize ((w.alloc (.cells #[.int .i64 0, .string ⟨#[]⟩, .int .i64 0, .bool false, .int .i64 0] 35)).alloc (.cells #[.string r] 9)).drew = W at HW ⊢
    go_wp2_with (go_at_call 52; ((with_reducible refine (contains_calls (w.heap.size + 1) W.heap.size r _ ?_ ?_).mono ?_); (focus (exact cell_below ((Below.refl _ _).alloc (Nat.le_refl _) _) HW.out.r)); (focus (exact heap_alloc_new W _)); rintro e w2 ⟨rfl, hb2⟩; rw [HM.out]; have hw2 := HW.out.below (below_then ((Below.refl _ _).alloc (Nat.le_refl _) _) hb2 (by simp)); have y0 := hw2.x.cell0; have y1 := hw2.x.cell1; have yf := hw2.x.free 1; have k0 := hw2.k.c0; have k1 := hw2.k.c1; have k2 := hw2.k.c2; have k3 := hw2.k.c3; have k4 := hw2.k.c4; have l0 := hw2.k.fr 0; have l1 := hw2.k.fr 1; have l2 := hw2.k.fr 2; have l3 := hw2.k.fr 3; have l4 := hw2.k.fr 4; have yr := hw2.r; have HW2 := Lib.hid hw2; clear hb2 hw2))
    have hset := (HW2.out.k.grown (grown_set (World.grownBy.refl w2 (some X)) 1 (.int .i64 ((a : Int) + 2))) (by simp; omega)).set (.int .i64 4) (.string (r.extract 0 2)) (.int .i64 0) (.bool false) (.int .i64 0)
    have r0 := hset.c0; have r1 := hset.c1; have r2 := hset.c2; have r3 := hset.c3; have r4 := hset.c4
    refine bodyPost_ret (v := .tuple #[.agg #[.int .i64 4, .string (r.extract 0 2), .int .i64 0, .bool false, .int .i64 0], .int .i64 0]) (by simp [results, Tryz.results33, go_sem, r0, r1, r2, r3, r4]) rfl ⟨grown_tokSet (grown_set HW2.out.g _ _) (Nat.le_refl _) _ _ _ _ _, ?_⟩
    rw [HG.out]
    refine ⟨?_, _, HLE.out, ?_, (HW2.out.x.set (a + 2)).tokSet (by omega) _ _ _ _ _⟩
    · rw [HTK.out]
      rfl
    · rw [List.drop_drop]
  | false =>
    cases h1 : markOne (s[a]'ha) with
    | true =>
      rw [h1] at hJ2
      have hJ3 : decide (J < 0) = false := hJ2
      clear hJ2
      have HM := Lib.hid hm
      have hrN : 1 ≤ r.size := hr0
      have HG := Lib.hid (show markL (s.data.toList.drop a) = .tok ⟨4, (s.data.toList.drop a).take 1, 0, false⟩ ((s.data.toList.drop a).drop 1) by
        unfold markL
        rw [← HRL.out, hm, if_neg (by simp), HRL.out, HHD.out, h1, if_pos rfl])
      have HTK := Lib.hid (show r.extract 0 1 = ⟨((s.data.toList.drop a).take 1).toArray⟩ by
        apply ByteArray.ext
        rw [← HRL.out]
        apply Array.ext'
        simp only [ByteArray.data_extract, Array.toList_extract, List.extract, List.drop_zero, Nat.sub_zero, List.toList_toArray])
      have HLE := Lib.hid (show a + 1 ≤ s.size by have := HRS.out; omega)
      clear hm
      go_enter Tryz.func33, Tryz.ntmps33
      go_wp2_with fail
      go_region
      rw [HR.out]
      have hW := MarkW.start HT.out r
      have HW := Lib.hid hW
      clear hW x0 x1
      generalize ((w.alloc (.cells #[.int .i64 0, .string ⟨#[]⟩, .int .i64 0, .bool false, .int .i64 0] 35)).alloc (.cells #[.string r] 9)).drew = W at HW ⊢
      go_wp2_with (first
        | (go_at_call 52; ((with_reducible refine (contains_calls (w.heap.size + 1) W.heap.size r _ ?_ ?_).mono ?_); (focus (exact cell_below ((Below.refl _ _).alloc (Nat.le_refl _) _) HW.out.r)); (focus (exact heap_alloc_new W _)); rintro e w2 ⟨rfl, hb2⟩; rw [HM.out]; have hw2 := HW.out.below (below_then ((Below.refl _ _).alloc (Nat.le_refl _) _) hb2 (by simp)); have y0 := hw2.x.cell0; have y1 := hw2.x.cell1; have yf := hw2.x.free 1; have k0 := hw2.k.c0; have k1 := hw2.k.c1; have k2 := hw2.k.c2; have k3 := hw2.k.c3; have k4 := hw2.k.c4; have l0 := hw2.k.fr 0; have l1 := hw2.k.fr 1; have l2 := hw2.k.fr 2; have l3 := hw2.k.fr 3; have l4 := hw2.k.fr 4; have yr := hw2.r; have HW2 := Lib.hid hw2; clear hb2 hw2))
        | (go_at_call 54; (with_reducible refine (Tryz.strings_IndexByte _ _ _).mono ?_); rintro e w' ⟨rfl, hw⟩; rw [hw, HJ.out]; clear hw))
      have hset := (HW2.out.k.grown (grown_set (World.grownBy.refl w2 (some X)) 1 (.int .i64 ((a : Int) + 1))) (by simp; omega)).set (.int .i64 4) (.string (r.extract 0 1)) (.int .i64 0) (.bool false) (.int .i64 0)
      have r0 := hset.c0; have r1 := hset.c1; have r2 := hset.c2; have r3 := hset.c3; have r4 := hset.c4
      refine bodyPost_ret (v := .tuple #[.agg #[.int .i64 4, .string (r.extract 0 1), .int .i64 0, .bool false, .int .i64 0], .int .i64 0]) (by simp [results, Tryz.results33, go_sem, r0, r1, r2, r3, r4]) rfl ⟨grown_tokSet (grown_set HW2.out.g _ _) (Nat.le_refl _) _ _ _ _ _, ?_⟩
      rw [HG.out]
      refine ⟨?_, _, HLE.out, ?_, (HW2.out.x.set (a + 1)).tokSet (by omega) _ _ _ _ _⟩
      · rw [HTK.out]
        rfl
      · rw [List.drop_drop]
    | false =>
      rw [h1] at hJ2
      have hJ3 : decide (J < 0) = true := hJ2
      clear hJ2
      have HM := Lib.hid hm
      have HG := Lib.hid (show markL (s.data.toList.drop a) = .bad 2 by
        unfold markL
        rw [← HRL.out, hm, if_neg (by simp), HRL.out, HHD.out, h1, if_neg (by simp)])
      clear hm
      go_enter Tryz.func33, Tryz.ntmps33
      go_wp2_with fail
      go_region
      rw [HR.out]
      have hW := MarkW.start HT.out r
      have HW := Lib.hid hW
      clear hW x0 x1
      generalize ((w.alloc (.cells #[.int .i64 0, .string ⟨#[]⟩, .int .i64 0, .bool false, .int .i64 0] 35)).alloc (.cells #[.string r] 9)).drew = W at HW ⊢
      go_wp2_with (first
        | (go_at_call 52; ((with_reducible refine (contains_calls (w.heap.size + 1) W.heap.size r _ ?_ ?_).mono ?_); (focus (exact cell_below ((Below.refl _ _).alloc (Nat.le_refl _) _) HW.out.r)); (focus (exact heap_alloc_new W _)); rintro e w2 ⟨rfl, hb2⟩; rw [HM.out]; have hw2 := HW.out.below (below_then ((Below.refl _ _).alloc (Nat.le_refl _) _) hb2 (by simp)); have y0 := hw2.x.cell0; have y1 := hw2.x.cell1; have yf := hw2.x.free 1; have k0 := hw2.k.c0; have k1 := hw2.k.c1; have k2 := hw2.k.c2; have k3 := hw2.k.c3; have k4 := hw2.k.c4; have l0 := hw2.k.fr 0; have l1 := hw2.k.fr 1; have l2 := hw2.k.fr 2; have l3 := hw2.k.fr 3; have l4 := hw2.k.fr 4; have yr := hw2.r; have HW2 := Lib.hid hw2; clear hb2 hw2))
        | (go_at_call 54; (with_reducible refine (Tryz.strings_IndexByte _ _ _).mono ?_); rintro e w' ⟨rfl, hw⟩; rw [hw, HJ.out]; clear hw))
      have hset := HW2.out.k.set (.int .i64 0) (.string ⟨#[]⟩) (.int .i64 0) (.bool false) (.int .i64 0)
      have r0 := hset.c0; have r1 := hset.c1; have r2 := hset.c2; have r3 := hset.c3; have r4 := hset.c4
      refine bodyPost_ret (v := .tuple #[.agg #[.int .i64 0, .string ⟨#[]⟩, .int .i64 0, .bool false, .int .i64 0], .int .i64 2]) (by simp [results, Tryz.results33, go_sem, r0, r1, r2, r3, r4]) rfl ⟨grown_tokSet HW2.out.g (Nat.le_refl _) _ _ _ _ _, ?_⟩
      rw [HG.out]
      exact ⟨rfl, _, HW2.out.x.tokSet (by omega) _ _ _ _ _⟩
end Go.Proofs.YtdfjhhhbkgelaaaGreatDoor.V
