/- (*text).quoted: a name in marks. -/
import Derived.Test.YtdfjhhhbkgelaaaGreatDoorOwn
namespace Go.Proofs.YtdfjhhhbkgelaaaGreatDoor.V
set_option linter.unusedVariables false
set_option linter.unusedSimpArgs false
open Go.RowKit

theorem byteN {c d : UInt8} {n : Int} (h : ((c.toNat : Int) == n) = true) (hd : (d.toNat : Int) = n) : c = d := by
  apply UInt8.toNat_inj.1
  have : (c.toNat : Int) = n := by simpa using h
  omega
theorem byteNot {c d : UInt8} {n : Int} (h : ((c.toNat : Int) == n) = false) (hd : (d.toNat : Int) = n) : (c == d) = false := by
  apply beq_eq_false_iff_ne.2
  rintro rfl
  rw [hd] at h
  simp at h

/-- What the scanner of a name in marks keeps, round by round. -/
structure QuotW (X : Nat) (s : ByteArray) (a k : Nat) (w W : World) (v : Value) (acc : List UInt8) : Prop where
  hx : IsText X s k W
  hk : IsTok w.heap.size (.int .i64 0) (.string ⟨#[]⟩) (.int .i64 0) (.bool false) (.int .i64 0) W
  ho : W.ownsRow (w.heap.size + 1) 5 1 v acc.length (u8V acc)
  hz : acc = [] → v = .slice none 0 0
  hn : acc.length ≤ k
  hg : w.grownBy W (some X)
  hq : quotL (s.data.toList.drop (a + 1)) = (quotL (s.data.toList.drop k)).map fun p => (acc ++ p.1, p.2)

theorem QuotW.conv {X : Nat} {s : ByteArray} {a k n c : Nat} {A : Option Addr} {w W W' : World} {acc : List UInt8} (h : QuotW X s a k w W (.slice A n c) acc) (hX : X < w.heap.size) (hg : W.grownBy W' (some X)) :
    (convert 48 9 (.slice A n c)).run Tryz.prog W' = .ok (.string ⟨acc.toArray⟩) W' := by
  by_cases he : acc = []
  · have hz := h.hz he
    cases hz
    rw [he]
    exact u8_nil W'
  · have ho := h.ho
    have hn : acc.length = n := by
      have := ho.1
      rcases ho.2 with ⟨hv, h2⟩ | ⟨g, cap, cur, hv, _⟩
      · cases hv
        omega
      · cases hv
        rfl
    rw [hn] at ho
    exact u8_conv (o_keep ho hg (by omega)) (by cases acc with | nil => exact absurd rfl he | cons => simp)
/-- A byte more. -/
theorem QuotW.more {X : Nat} {s : ByteArray} {a k k' k1 m c : Nat} {A : Option Addr} {b : UInt8} {w W W1 W2 W3 : World} {v : Value} {acc : List UInt8} (h : QuotW X s a k w W v acc) (hX : X < w.heap.size)
    (hg : W.grownBy W1 (some X)) (hT : IsText X s k1 W1) (ho : W2.ownsRow (w.heap.size + 1) 5 1 (.slice A m c) m (u8V acc ++ [.int .u8 (b.toNat : Int)])) (hm : m = acc.length + 1) (hg2 : W1.grownBy W2 v.ownBlock) (hW3 : W3 = W2.setCell ⟨X, 1, none⟩ (.int .i64 (k' : Int))) (hk : acc.length + 1 ≤ k')
    (hq : quotL (s.data.toList.drop k) = (quotL (s.data.toList.drop k')).map fun p => (b :: p.1, p.2)) : QuotW X s a k' w W3 (.slice A m c) (acc ++ [b]) := by
  subst hW3
  have ho1 : ∀ j, v.ownBlock = some j → w.heap.size + 1 ≤ j := fun j hj => o_from h.ho j hj
  have hXne : some X ≠ v.ownBlock := fun e => by have := ho1 X e.symm; omega
  have hKne : some w.heap.size ≠ v.ownBlock := fun e => by have := ho1 _ e.symm; omega
  have gW2 : w.grownBy W2 (some X) := o_grown (grown_trans h.hg hg) hg2 (fun j hj => by have := ho1 j hj; omega)
  exact
    { hx := (hT.grown hg2 hXne).set k'
      hk := ((h.hk.grown hg (by simp; omega)).grown hg2 hKne).grown (grown_set (World.grownBy.refl W2 (some X)) _ _) (by simp; omega)
      ho := by
        rw [List.length_append, List.length_singleton, u8V_snoc, ← hm]
        exact o_keep ho (grown_set (World.grownBy.refl W2 (some X)) _ _) (by omega)
      hz := fun e => by simp at e
      hn := by simpa using hk
      hg := grown_set gW2 _ _
      hq := by
        rw [h.hq, hq]
        cases quotL (s.data.toList.drop k') <;> simp }

set_option maxRecDepth 100000 in
set_option maxHeartbeats 8000000 in
theorem quoted_calls (X : Nat) (s : ByteArray) (a : Nat) (w : World) (hT : IsText X s a w) (ha : a < s.size) (hs : s.size ≤ 65536) :
    Calls Tryz.prog 38 #[.pointer (some ⟨X, 0, none⟩)] w (OneIs X s (qres (quotL (s.data.toList.drop (a + 1)))) w) := by
  have hlt := hT.lt
  have hx := hT.grown (World.grownBy_alloc w (.cells #[.int .i64 0, .string ⟨#[]⟩, .int .i64 0, .bool false, .int .i64 0] 35) none) (by simp)
  have x0 := hx.cell0
  have x1 := hx.cell1
  have xf := hx.free 1
  have HT := Lib.hid hT
  have HLT := Lib.hid hlt
  clear hT hx
  have HS := Lib.hid (show QuotW X s a (a + 1) w ((w.setCell ⟨X, 1, none⟩ (.int .i64 ((a + 1 : Nat) : Int))).alloc (.cells #[.int .i64 0, .string ⟨#[]⟩, .int .i64 0, .bool false, .int .i64 0] 35)) (.slice none 0 0) [] from
    { hx := (HT.out.set (a + 1)).grown (World.grownBy_alloc _ _ none) (by simp)
      hk := by
        have := IsTok.new (v0 := .int .i64 0) (v1 := .string ⟨#[]⟩) (v2 := .int .i64 0) (v3 := .bool false) (v4 := .int .i64 0) (w.setCell ⟨X, 1, none⟩ (.int .i64 ((a + 1 : Nat) : Int)))
        rwa [show (w.setCell ⟨X, 1, none⟩ (.int .i64 ((a + 1 : Nat) : Int))).heap.size = w.heap.size by simp [World.setCell]] at this
      ho := World.ownsRow_nil _ _ _ _
      hz := fun _ => rfl
      hn := Nat.zero_le _
      hg := grown_trans (grown_set (World.grownBy.refl _ _) _ _) (World.grownBy_alloc _ _ _)
      hq := by simp })
  go_enter Tryz.func38, Tryz.ntmps38
  go_wp2_with fail
  go_loopw [4, 5] (fun v c wr => ∃ k acc, k ≤ s.size ∧ QuotW X s a k w wr v acc) (fun _ _ wr => s.size - textAt X wr)
  case atStart => exact ⟨a + 1, [], ha, HS.out⟩
  case round =>
    obtain ⟨k, acc, hk, hW⟩ := hrel
    obtain ⟨A, c, rfl⟩ := o_slice hW.ho
    have HW := Lib.hid hW
    have c0 := hW.hx.cell0
    have c1 := hW.hx.cell1
    have cf := hW.hx.free 1
    have k0 := hW.hk.c0; have k1 := hW.hk.c1; have k2 := hW.hk.c2; have k3 := hW.hk.c3; have k4 := hW.hk.c4
    have l0 := hW.hk.fr 0; have l1 := hW.hk.fr 1; have l2 := hW.hk.fr 2; have l3 := hW.hk.fr 3; have l4 := hW.hk.fr 4
    have HK := Lib.hid hk
    clear hW x0 x1 xf
    by_cases hkl : k < s.size
    · have hd : decide ((k : Int) < (s.size : Int)) = true := decide_eq_true (by omega)
      have HDR := Lib.hid (drop_at hkl)
      cases h39 : (((s[k]'hkl).toNat : Int) == 39) with
      | true =>
        have HQ := Lib.hid (show quotL (s.data.toList.drop k) = some ([], s.data.toList.drop (k + 1)) by rw [HDR.out, byteN (d := 39) h39 (by decide), q39])
        have hcv : (convert 48 9 (.slice A acc.length c)).run Tryz.prog (wr.setCell ⟨X, 1, none⟩ (.int .i64 ((k : Int) + 1))).drew.drew = .ok (.string ⟨acc.toArray⟩) (wr.setCell ⟨X, 1, none⟩ (.int .i64 ((k : Int) + 1))).drew.drew := HW.out.conv HLT.out (grown_drew (grown_drew (grown_set (World.grownBy.refl wr (some X)) 1 (.int .i64 ((k : Int) + 1)))))
        go_wp2_with fail
        go_region
        go_wp2_with fail
        go_region
        go_wp2_with fail
        have hset := (HW.out.hk.grown (grown_set (World.grownBy.refl wr (some X)) 1 (.int .i64 ((k : Int) + 1))) (by have := HLT.out; simp; omega)).set (.int .i64 1) (.string ⟨acc.toArray⟩) (.int .i64 0) (.bool true) (.int .i64 0)
        have r0 := hset.c0; have r1 := hset.c1; have r2 := hset.c2; have r3 := hset.c3; have r4 := hset.c4
        refine bodyPost_ret (v := .tuple #[.agg #[.int .i64 1, .string ⟨acc.toArray⟩, .int .i64 0, .bool true, .int .i64 0], .int .i64 0]) (by simp [results, Tryz.results38, go_sem, r0, r1, r2, r3, r4]) rfl ⟨grown_drew (grown_drew (grown_tokSet (grown_trans HW.out.hg (grown_set (World.grownBy.refl wr (some X)) 1 (.int .i64 ((k : Int) + 1)))) (Nat.le_refl _) _ _ _ _ _)), ?_⟩
        rw [HW.out.hq, HQ.out]
        exact ⟨by simp [tokV], k + 1, hkl, rfl, ((HW.out.hx.set (k + 1)).tokSet (by have := HLT.out; omega) _ _ _ _ _).drew.drew⟩
      | false =>
        have H39 := Lib.hid (byteNot (d := 39) h39 (by decide))
        cases h10 : (((s[k]'hkl).toNat : Int) == 10) with
        | true =>
          have HQ := Lib.hid (show quotL (s.data.toList.drop k) = none by rw [HDR.out, byteN (d := 10) h10 (by decide), q10])
          go_wp2_with fail
          go_region
          go_wp2_with fail
          go_region
          go_wp2_with fail
          have hset := (HW.out.hk.grown (World.grownBy.refl wr (some X)) (by have := HLT.out; simp; omega)).set (.int .i64 0) (.string ⟨#[]⟩) (.int .i64 0) (.bool false) (.int .i64 0)
          have r0 := hset.c0; have r1 := hset.c1; have r2 := hset.c2; have r3 := hset.c3; have r4 := hset.c4
          refine bodyPost_ret (v := .tuple #[.agg #[.int .i64 0, .string ⟨#[]⟩, .int .i64 0, .bool false, .int .i64 0], .int .i64 2]) (by simp [results, Tryz.results38, go_sem, r0, r1, r2, r3, r4]) rfl ⟨(grown_drew (grown_drew (grown_tokSet (grown_trans HW.out.hg (World.grownBy.refl wr (some X))) (Nat.le_refl _) _ _ _ _ _))), ?_⟩
          rw [HW.out.hq, HQ.out]
          exact ⟨rfl, _, (HW.out.hx.tokSet (by have := HLT.out; omega) _ _ _ _ _).drew.drew⟩
        | false =>
          have H10 := Lib.hid (byteNot (d := 10) h10 (by decide))
          cases h92 : (((s[k]'hkl).toNat : Int) == 92) with
          | true =>
            have H92 := Lib.hid (byteN (d := 92) h92 (by decide))
            by_cases hk2 : k + 1 < s.size
            · have he : (((k : Int) + 1) == (s.size : Int)) = false := by simpa using (by omega : ¬ (k : Int) + 1 = (s.size : Int))
              have HDR2 := Lib.hid (drop_at hk2)
              obtain ⟨J, hJ⟩ : ∃ J, Lib.indexByte [110, 39, 92] ((s[k + 1]'hk2).toNat : Int).toNat.toUInt8 = J := ⟨_, rfl⟩
              have hJ2 : decide (J < 0) = !(s[k + 1] == 110 || s[k + 1] == 39 || s[k + 1] == 92) := by
                rw [← hJ, ← index_esc]
                simp
              have HJ := Lib.hid hJ
              clear hJ
              have C0 := Lib.hid (show (wr.setCell ⟨X, 1, none⟩ (.int .i64 ((k : Int) + 1))).cell? ⟨X, 0, none⟩ = some (.string s) from (HW.out.hx.set (k + 1)).cell0)
              have C1 := Lib.hid (show (wr.setCell ⟨X, 1, none⟩ (.int .i64 ((k : Int) + 1))).cell? ⟨X, 1, none⟩ = some (.int .i64 ((k : Int) + 1)) from (HW.out.hx.set (k + 1)).cell1)
              cases hin : (s[k + 1] == 110 || s[k + 1] == 39 || s[k + 1] == 92) with
              | false =>
                rw [hin] at hJ2
                have hJ3 : decide (J < 0) = true := hJ2
                have HQ := Lib.hid (show quotL (s.data.toList.drop k) = none by rw [HDR.out, H92.out, HDR2.out, q92, hin]; rfl)
                clear hJ2 hin
                go_wp2_with fail
                go_region
                go_wp2_with fail
                go_region
                go_wp2_with fail
                go_region_held3 (fun W => W.cell? ⟨X, 0, none⟩ = some (.string s) ∧ W.cell? ⟨X, 1, none⟩ = some (.int .i64 ((k : Int) + 1)))
                  ((go_split_ands; refine ⟨?_, ?_⟩; (focus (first | with_reducible assumption | (refine cell_below (w := wr.setCell ⟨X, 1, none⟩ (.int .i64 ((k : Int) + 1))) ?_ C0.out; (focus (repeat (first | with_reducible assumption | with_reducible exact Below.refl _ _ | with_reducible apply Below.drew)))))); (focus (first | with_reducible assumption | (refine cell_below (w := wr.setCell ⟨X, 1, none⟩ (.int .i64 ((k : Int) + 1))) ?_ C1.out; (focus (repeat (first | with_reducible assumption | with_reducible exact Below.refl _ _ | with_reducible apply Below.drew))))))))
                  (first
                    | (go_at_call 54; (with_reducible refine (Tryz.strings_IndexByte _ _ _).mono ?_); rintro e w' ⟨rfl, hw⟩; rw [hw, HJ.out]; clear hw))
                go_wp2_with fail
                have hset := (HW.out.hk.grown (grown_set (World.grownBy.refl wr (some X)) 1 (.int .i64 ((k : Int) + 1))) (by have := HLT.out; simp; omega)).set (.int .i64 0) (.string ⟨#[]⟩) (.int .i64 0) (.bool false) (.int .i64 0)
                have r0 := hset.c0; have r1 := hset.c1; have r2 := hset.c2; have r3 := hset.c3; have r4 := hset.c4
                refine bodyPost_ret (v := .tuple #[.agg #[.int .i64 0, .string ⟨#[]⟩, .int .i64 0, .bool false, .int .i64 0], .int .i64 2]) (by simp [results, Tryz.results38, go_sem, r0, r1, r2, r3, r4]) rfl ⟨(grown_drew (grown_drew (grown_drew (grown_tokSet (grown_trans HW.out.hg (grown_set (World.grownBy.refl wr (some X)) 1 (.int .i64 ((k : Int) + 1)))) (Nat.le_refl _) _ _ _ _ _)))), ?_⟩
                rw [HW.out.hq, HQ.out]
                exact ⟨rfl, _, ((HW.out.hx.set (k + 1)).tokSet (by have := HLT.out; omega) _ _ _ _ _).drew.drew.drew⟩
              | true =>
                rw [hin] at hJ2
                have hJ3 : decide (J < 0) = false := hJ2
                clear hJ2
                cases h110 : (((s[k + 1]'hk2).toNat : Int) == 110) with
                | true =>
                  have HQ := Lib.hid (show quotL (s.data.toList.drop k) = (quotL (s.data.toList.drop (k + 2))).map fun p => ((10 : UInt8) :: p.1, p.2) by
                    rw [HDR.out, H92.out, HDR2.out, q92, hin, if_pos rfl, byteN (d := 110) h110 (by decide)]
                    rfl)
                  clear hin
                  go_wp2_with fail
                  go_region
                  go_wp2_with fail
                  go_region
                  go_wp2_with fail
                  go_region_held3 (fun W => W.cell? ⟨X, 0, none⟩ = some (.string s) ∧ W.cell? ⟨X, 1, none⟩ = some (.int .i64 ((k : Int) + 1)))
                    ((go_split_ands; refine ⟨?_, ?_⟩; (focus (first | with_reducible assumption | (refine cell_below (w := wr.setCell ⟨X, 1, none⟩ (.int .i64 ((k : Int) + 1))) ?_ C0.out; (focus (repeat (first | with_reducible assumption | with_reducible exact Below.refl _ _ | with_reducible apply Below.drew)))))); (focus (first | with_reducible assumption | (refine cell_below (w := wr.setCell ⟨X, 1, none⟩ (.int .i64 ((k : Int) + 1))) ?_ C1.out; (focus (repeat (first | with_reducible assumption | with_reducible exact Below.refl _ _ | with_reducible apply Below.drew))))))))
                    (first
                      | (go_at_call 54; (with_reducible refine (Tryz.strings_IndexByte _ _ _).mono ?_); rintro e w' ⟨rfl, hw⟩; rw [hw, HJ.out]; clear hw))
                  go_wp2_with fail
                  go_region
                  go_wp2_with (at_builtin; refine RowKit.Hid.out ?_)
                  refine Lib.hid ?_
                  refine o_app (W := (wr.setCell ⟨X, 1, none⟩ (.int .i64 ((k : Int) + 1))).drew.drew.drew.drew) rfl (.tmp 101) (.tmp 103) 48 5 rfl (.int .u8 0) 1 1 Tryz.underlying48 u8_info rfl (by decide) (by decide) #[.int .u8 ((10 : UInt8).toNat : Int)] rfl (by intro u hu; simp at hu; subst hu; rfl) (.slice A acc.length c) acc.length (u8V acc) (by rfl) (o_keep HW.out.ho (grown_drew (grown_drew (grown_drew (grown_drew (grown_set (World.grownBy.refl wr (some X)) 1 (.int .i64 ((k : Int) + 1))))))) (by have := HLT.out; omega)) (by first | rfl | (show (Value.slice (some ⟨wr.heap.size, 0, none⟩) 1 1) = _; simp [World.setCell, World.drew])) (by have := HW.out.hn; omega) (by have := HW.out.hk; have := (Array.getElem?_eq_some_iff.1 this).1; simp; omega) ?_
                  intro A2 c2 W2 ho2 hg2
                  have hX2 : some X ≠ Value.ownBlock (.slice A acc.length c) := fun e => by have := o_from HW.out.ho X e.symm; have := HLT.out; omega
                  have ht2 := ((HW.out.hx.set (k + 1)).drew.drew.drew.drew).grown hg2 hX2
                  have d0 := ht2.cell0
                  have d1 := ht2.cell1
                  have df := ht2.free 1
                  have HT2 := Lib.hid ht2
                  have HO2 := Lib.hid ho2
                  have HG2 := Lib.hid hg2
                  clear ht2 ho2 hg2 hX2 c0 c1 cf
                  go_wp2_with fail
                  go_roundw
                  case rel => exact ⟨(k + 1) + 1, acc ++ [10], (by omega), HW.out.more HLT.out (grown_drew (grown_drew (grown_drew (grown_drew (grown_set (World.grownBy.refl wr (some X)) 1 (.int .i64 ((k : Int) + 1))))))) ((HW.out.hx.set (k + 1)).drew.drew.drew.drew) HO2.out rfl HG2.out rfl (by have := HW.out.hn; omega) HQ.out⟩
                  case measure =>
                    refine Nat.lt_of_le_of_lt (Nat.le_of_eq (congrArg (s.size - ·) (HT2.out.set ((k + 1) + 1)).textAt)) ?_
                    rw [HW.out.hx.textAt]
                    omega
                | false =>
                  have H110 := Lib.hid (byteNot (d := 110) h110 (by decide))
                  have HQ := Lib.hid (show quotL (s.data.toList.drop k) = (quotL (s.data.toList.drop (k + 2))).map fun p => (s[k + 1] :: p.1, p.2) by
                    rw [HDR.out, H92.out, HDR2.out, q92, hin, if_pos rfl, H110.out]
                    rfl)
                  clear hin
                  go_wp2_with fail
                  go_region
                  go_wp2_with fail
                  go_region
                  go_wp2_with fail
                  go_region_held3 (fun W => W.cell? ⟨X, 0, none⟩ = some (.string s) ∧ W.cell? ⟨X, 1, none⟩ = some (.int .i64 ((k : Int) + 1)))
                    ((go_split_ands; refine ⟨?_, ?_⟩; (focus (first | with_reducible assumption | (refine cell_below (w := wr.setCell ⟨X, 1, none⟩ (.int .i64 ((k : Int) + 1))) ?_ C0.out; (focus (repeat (first | with_reducible assumption | with_reducible exact Below.refl _ _ | with_reducible apply Below.drew)))))); (focus (first | with_reducible assumption | (refine cell_below (w := wr.setCell ⟨X, 1, none⟩ (.int .i64 ((k : Int) + 1))) ?_ C1.out; (focus (repeat (first | with_reducible assumption | with_reducible exact Below.refl _ _ | with_reducible apply Below.drew))))))))
                    (first
                      | (go_at_call 54; (with_reducible refine (Tryz.strings_IndexByte _ _ _).mono ?_); rintro e w' ⟨rfl, hw⟩; rw [hw, HJ.out]; clear hw))
                  go_wp2_with fail
                  go_region
                  go_wp2_with (at_builtin; refine RowKit.Hid.out ?_)
                  refine Lib.hid ?_
                  refine o_app (W := (wr.setCell ⟨X, 1, none⟩ (.int .i64 ((k : Int) + 1))).drew.drew.drew.drew) rfl (.tmp 101) (.tmp 103) 48 5 rfl (.int .u8 0) 1 1 Tryz.underlying48 u8_info rfl (by decide) (by decide) #[.int .u8 ((s[k + 1]'hk2).toNat : Int)] rfl (by intro u hu; simp at hu; subst hu; rfl) (.slice A acc.length c) acc.length (u8V acc) (by rfl) (o_keep HW.out.ho (grown_drew (grown_drew (grown_drew (grown_drew (grown_set (World.grownBy.refl wr (some X)) 1 (.int .i64 ((k : Int) + 1))))))) (by have := HLT.out; omega)) (by first | rfl | (show (Value.slice (some ⟨wr.heap.size, 0, none⟩) 1 1) = _; simp [World.setCell, World.drew])) (by have := HW.out.hn; omega) (by have := HW.out.hk; have := (Array.getElem?_eq_some_iff.1 this).1; simp; omega) ?_
                  intro A2 c2 W2 ho2 hg2
                  have hX2 : some X ≠ Value.ownBlock (.slice A acc.length c) := fun e => by have := o_from HW.out.ho X e.symm; have := HLT.out; omega
                  have ht2 := ((HW.out.hx.set (k + 1)).drew.drew.drew.drew).grown hg2 hX2
                  have d0 := ht2.cell0
                  have d1 := ht2.cell1
                  have df := ht2.free 1
                  have HT2 := Lib.hid ht2
                  have HO2 := Lib.hid ho2
                  have HG2 := Lib.hid hg2
                  clear ht2 ho2 hg2 hX2 c0 c1 cf
                  go_wp2_with fail
                  go_roundw
                  case rel => exact ⟨(k + 1) + 1, acc ++ [s[k + 1]], (by omega), HW.out.more HLT.out (grown_drew (grown_drew (grown_drew (grown_drew (grown_set (World.grownBy.refl wr (some X)) 1 (.int .i64 ((k : Int) + 1))))))) ((HW.out.hx.set (k + 1)).drew.drew.drew.drew) HO2.out rfl HG2.out rfl (by have := HW.out.hn; omega) HQ.out⟩
                  case measure =>
                    refine Nat.lt_of_le_of_lt (Nat.le_of_eq (congrArg (s.size - ·) (HT2.out.set ((k + 1) + 1)).textAt)) ?_
                    rw [HW.out.hx.textAt]
                    omega
            · have he : (((k : Int) + 1) == (s.size : Int)) = true := by simpa using (by omega : (k : Int) + 1 = (s.size : Int))
              have HQ := Lib.hid (show quotL (s.data.toList.drop k) = none by rw [HDR.out, H92.out, drop_end (by omega)]; rfl)
              go_wp2_with fail
              go_region
              go_wp2_with fail
              go_region
              go_wp2_with fail
              go_region
              go_wp2_with fail
              have hset := (HW.out.hk.grown (grown_set (World.grownBy.refl wr (some X)) 1 (.int .i64 ((k : Int) + 1))) (by have := HLT.out; simp; omega)).set (.int .i64 0) (.string ⟨#[]⟩) (.int .i64 0) (.bool false) (.int .i64 0)
              have r0 := hset.c0; have r1 := hset.c1; have r2 := hset.c2; have r3 := hset.c3; have r4 := hset.c4
              refine bodyPost_ret (v := .tuple #[.agg #[.int .i64 0, .string ⟨#[]⟩, .int .i64 0, .bool false, .int .i64 0], .int .i64 2]) (by simp [results, Tryz.results38, go_sem, r0, r1, r2, r3, r4]) rfl ⟨(grown_drew (grown_drew (grown_drew (grown_tokSet (grown_trans HW.out.hg (grown_set (World.grownBy.refl wr (some X)) 1 (.int .i64 ((k : Int) + 1)))) (Nat.le_refl _) _ _ _ _ _)))), ?_⟩
              rw [HW.out.hq, HQ.out]
              exact ⟨rfl, _, ((HW.out.hx.set (k + 1)).tokSet (by have := HLT.out; omega) _ _ _ _ _).drew.drew.drew⟩
          | false =>
            have HQ := Lib.hid (show quotL (s.data.toList.drop k) = (quotL (s.data.toList.drop (k + 1))).map fun p => (s[k] :: p.1, p.2) by rw [HDR.out, qother _ _ H39.out H10.out (byteNot (d := 92) h92 (by decide))])
            go_wp2_with fail
            go_region
            go_wp2_with fail
            go_region
            go_wp2_with (at_builtin; refine RowKit.Hid.out ?_)
            refine Lib.hid ?_
            refine o_app (W := wr.drew.drew) rfl (.tmp 101) (.tmp 103) 48 5 rfl (.int .u8 0) 1 1 Tryz.underlying48 u8_info rfl (by decide) (by decide) #[.int .u8 ((s[k]'hkl).toNat : Int)] rfl (by intro u hu; simp at hu; subst hu; rfl) (.slice A acc.length c) acc.length (u8V acc) (by rfl) (o_keep HW.out.ho (grown_drew (grown_drew (World.grownBy.refl wr (some X)))) (by have := HLT.out; omega)) (by first | rfl | (show (Value.slice (some ⟨wr.heap.size, 0, none⟩) 1 1) = _; simp [World.setCell, World.drew])) (by have := HW.out.hn; omega) (by have := HW.out.hk; have := (Array.getElem?_eq_some_iff.1 this).1; simp; omega) ?_
            intro A2 c2 W2 ho2 hg2
            have hX2 : some X ≠ Value.ownBlock (.slice A acc.length c) := fun e => by have := o_from HW.out.ho X e.symm; have := HLT.out; omega
            have ht2 := (HW.out.hx.drew.drew).grown hg2 hX2
            have d0 := ht2.cell0
            have d1 := ht2.cell1
            have df := ht2.free 1
            have HT2 := Lib.hid ht2
            have HO2 := Lib.hid ho2
            have HG2 := Lib.hid hg2
            clear ht2 ho2 hg2 hX2 c0 c1 cf
            go_wp2_with fail
            go_roundw
            case rel => exact ⟨k + 1, acc ++ [s[k]], hkl, HW.out.more HLT.out (grown_drew (grown_drew (World.grownBy.refl wr (some X)))) (HW.out.hx.drew.drew) HO2.out rfl HG2.out rfl (by have := HW.out.hn; omega) HQ.out⟩
            case measure =>
              refine Nat.lt_of_le_of_lt (Nat.le_of_eq (congrArg (s.size - ·) (HT2.out.set (k + 1)).textAt)) ?_
              rw [HW.out.hx.textAt]
              omega
    · have hd : decide ((k : Int) < (s.size : Int)) = false := decide_eq_false (by omega)
      have HQ := Lib.hid (show quotL (s.data.toList.drop k) = none by rw [drop_end (by omega)]; rfl)
      go_wp2_with fail
      go_region
      go_wp2_with fail
      have hset := (HW.out.hk.grown (World.grownBy.refl wr (some X)) (by have := HLT.out; simp; omega)).set (.int .i64 0) (.string ⟨#[]⟩) (.int .i64 0) (.bool false) (.int .i64 0)
      have r0 := hset.c0; have r1 := hset.c1; have r2 := hset.c2; have r3 := hset.c3; have r4 := hset.c4
      refine bodyPost_ret (v := .tuple #[.agg #[.int .i64 0, .string ⟨#[]⟩, .int .i64 0, .bool false, .int .i64 0], .int .i64 2]) (by simp [results, Tryz.results38, go_sem, r0, r1, r2, r3, r4]) rfl ⟨(grown_drew (grown_tokSet (grown_trans HW.out.hg (World.grownBy.refl wr (some X))) (Nat.le_refl _) _ _ _ _ _)), ?_⟩
      rw [HW.out.hq, HQ.out]
      exact ⟨rfl, _, (HW.out.hx.tokSet (by have := HLT.out; omega) _ _ _ _ _).drew⟩
end Go.Proofs.YtdfjhhhbkgelaaaGreatDoor.V
