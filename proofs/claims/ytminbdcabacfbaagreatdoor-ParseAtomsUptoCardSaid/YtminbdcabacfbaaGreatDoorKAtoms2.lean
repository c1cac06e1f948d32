/- (*text).quoted: a name in marks. (*text).one: the token at a place. token.Scan: a text's tokens. Lists of tokens in memory. The document's programs of tokens, with no program in sight. -/
import Derived.BigQuiet
import Derived.Deep.QuietTactic
import Derived.Test.YtminbdcabacfbaaGreatDoorKAtoms1
namespace Go.Proofs.YtminbdcabacfbaaGreatDoor.V
set_option linter.unusedVariables false
set_option linter.unusedSimpArgs false
open Go.RowKit

theorem byteN {c d : UInt8} {n : Int} (h : ((c.toNat : Int) == n) = true) (hd : (d.toNat : Int) = n) : c = d := by
  apply UInt8.toNat_inj.1
  have : (c.toNat : Int) = n := by simpa using h
  omega
theorem byteNot {c d : UInt8} {n : Int} (h : ((c.toNat : Int) == n) = false) (hd : (d.toNat : Int) = n) : (c == d) = false := by
  apply beq_eq_false_iff_ne.2
  rintro rfl
  rw [hd] at h
  simp at h

/-- What the scanner of a name in marks keeps, round by round. -/
structure QuotW (X : Nat) (s : ByteArray) (a k : Nat) (w W : World) (v : Value) (acc : List UInt8) : Prop where
  hx : IsText X s k W
  hk : IsTok w.heap.size (.int .i64 0) (.string ⟨#[]⟩) (.int .i64 0) (.bool false) (.int .i64 0) W
  ho : W.ownsRow (w.heap.size + 1) 5 1 v acc.length (u8V acc)
  hz : acc = [] → v = .slice none 0 0
  hn : acc.length ≤ k
  hg : w.grownBy W (some X)
  hq : quotL (s.data.toList.drop (a + 1)) = (quotL (s.data.toList.drop k)).map fun p => (acc ++ p.1, p.2)

theorem QuotW.conv {X : Nat} {s : ByteArray} {a k n c : Nat} {A : Option Addr} {w W W' : World} {acc : List UInt8} (h : QuotW X s a k w W (.slice A n c) acc) (hX : X < w.heap.size) (hg : W.grownBy W' (some X)) :
    (convert 82 9 (.slice A n c)).run Tryz.prog W' = .ok (.string ⟨acc.toArray⟩) W' := by
  by_cases he : acc = []
  · have hz := h.hz he
    cases hz
    rw [he]
    exact u8_nil W'
  · have ho := h.ho
    have hn : acc.length = n := by
      have := ho.1
      rcases ho.2 with ⟨hv, h2⟩ | ⟨g, cap, cur, hv, _⟩
      · cases hv
        omega
      · cases hv
        rfl
    rw [hn] at ho
    exact u8_conv (o_keep ho hg (by omega)) (by cases acc with | nil => exact absurd rfl he | cons => simp)
/-- A byte more. -/
theorem QuotW.more {X : Nat} {s : ByteArray} {a k k' k1 m c : Nat} {A : Option Addr} {b : UInt8} {w W W1 W2 W3 : World} {v : Value} {acc : List UInt8} (h : QuotW X s a k w W v acc) (hX : X < w.heap.size)
    (hg : W.grownBy W1 (some X)) (hT : IsText X s k1 W1) (ho : W2.ownsRow (w.heap.size + 1) 5 1 (.slice A m c) m (u8V acc ++ [.int .u8 (b.toNat : Int)])) (hm : m = acc.length + 1) (hg2 : W1.grownBy W2 v.ownBlock) (hW3 : W3 = W2.setCell ⟨X, 1, none⟩ (.int .i64 (k' : Int))) (hk : acc.length + 1 ≤ k')
    (hq : quotL (s.data.toList.drop k) = (quotL (s.data.toList.drop k')).map fun p => (b :: p.1, p.2)) : QuotW X s a k' w W3 (.slice A m c) (acc ++ [b]) := by
  subst hW3
  have ho1 : ∀ j, v.ownBlock = some j → w.heap.size + 1 ≤ j := fun j hj => o_from h.ho j hj
  have hXne : some X ≠ v.ownBlock := fun e => by have := ho1 X e.symm; omega
  have hKne : some w.heap.size ≠ v.ownBlock := fun e => by have := ho1 _ e.symm; omega
  have gW2 : w.grownBy W2 (some X) := o_grown (grown_trans h.hg hg) hg2 (fun j hj => by have := ho1 j hj; omega)
  exact
    { hx := (hT.grown hg2 hXne).set k'
      hk := ((h.hk.grown hg (by simp; omega)).grown hg2 hKne).grown (grown_set (World.grownBy.refl W2 (some X)) _ _) (by simp; omega)
      ho := by
        rw [List.length_append, List.length_singleton, u8V_snoc, ← hm]
        exact o_keep ho (grown_set (World.grownBy.refl W2 (some X)) _ _) (by omega)
      hz := fun e => by simp at e
      hn := by simpa using hk
      hg := grown_set gW2 _ _
      hq := by
        rw [h.hq, hq]
        cases quotL (s.data.toList.drop k') <;> simp }

set_option maxRecDepth 100000 in
set_option maxHeartbeats 8000000 in
theorem quoted_calls (X : Nat) (s : ByteArray) (a : Nat) (w : World) (hT : IsText X s a w) (ha : a < s.size) (hs : s.size ≤ 65536) :
    Calls Tryz.prog 130 #[.pointer (some ⟨X, 0, none⟩)] w (OneIs X s (qres (quotL (s.data.toList.drop (a + 1)))) w) := by
  have hlt := hT.lt
  have hx := hT.grown (World.grownBy_alloc w (.cells #[.int .i64 0, .string ⟨#[]⟩, .int .i64 0, .bool false, .int .i64 0] 71) none) (by simp)
  have x0 := hx.cell0
  have x1 := hx.cell1
  have xf := hx.free 1
  have HT := Lib.hid hT
  have HLT := Lib.hid hlt
  clear hT hx
  have HS := Lib.hid (show QuotW X s a (a + 1) w ((w.setCell ⟨X, 1, none⟩ (.int .i64 ((a + 1 : Nat) : Int))).alloc (.cells #[.int .i64 0, .string ⟨#[]⟩, .int .i64 0, .bool false, .int .i64 0] 71)) (.slice none 0 0) [] from
    { hx := (HT.out.set (a + 1)).grown (World.grownBy_alloc _ _ none) (by simp)
      hk := by
        have := IsTok.new (v0 := .int .i64 0) (v1 := .string ⟨#[]⟩) (v2 := .int .i64 0) (v3 := .bool false) (v4 := .int .i64 0) (w.setCell ⟨X, 1, none⟩ (.int .i64 ((a + 1 : Nat) : Int)))
        rwa [show (w.setCell ⟨X, 1, none⟩ (.int .i64 ((a + 1 : Nat) : Int))).heap.size = w.heap.size by simp [World.setCell]] at this
      ho := World.ownsRow_nil _ _ _ _
      hz := fun _ => rfl
      hn := Nat.zero_le _
      hg := grown_trans (grown_set (World.grownBy.refl _ _) _ _) (World.grownBy_alloc _ _ _)
      hq := by simp })
  go_enter Tryz.func130, Tryz.ntmps130
  go_wp2_with fail
  go_loopw [4, 5] (fun v c wr => ∃ k acc, k ≤ s.size ∧ QuotW X s a k w wr v acc) (fun _ _ wr => s.size - textAt X wr)
  case atStart => exact ⟨a + 1, [], ha, HS.out⟩
  case round =>
    obtain ⟨k, acc, hk, hW⟩ := hrel
    obtain ⟨A, c, rfl⟩ := o_slice hW.ho
    have HW := Lib.hid hW
    have c0 := hW.hx.cell0
    have c1 := hW.hx.cell1
    have cf := hW.hx.free 1
    have k0 := hW.hk.c0; have k1 := hW.hk.c1; have k2 := hW.hk.c2; have k3 := hW.hk.c3; have k4 := hW.hk.c4
    have l0 := hW.hk.fr 0; have l1 := hW.hk.fr 1; have l2 := hW.hk.fr 2; have l3 := hW.hk.fr 3; have l4 := hW.hk.fr 4
    have HK := Lib.hid hk
    clear hW x0 x1 xf
    by_cases hkl : k < s.size
    · have hd : decide ((k : Int) < (s.size : Int)) = true := decide_eq_true (by omega)
      have HDR := Lib.hid (drop_at hkl)
      cases h39 : (((s[k]'hkl).toNat : Int) == 39) with
      | true =>
        have HQ := Lib.hid (show quotL (s.data.toList.drop k) = some ([], s.data.toList.drop (k + 1)) by rw [HDR.out, byteN (d := 39) h39 (by decide), q39])
        have hcv : (convert 82 9 (.slice A acc.length c)).run Tryz.prog (wr.setCell ⟨X, 1, none⟩ (.int .i64 ((k : Int) + 1))).drew.drew = .ok (.string ⟨acc.toArray⟩) (wr.setCell ⟨X, 1, none⟩ (.int .i64 ((k : Int) + 1))).drew.drew := HW.out.conv HLT.out (grown_drew (grown_drew (grown_set (World.grownBy.refl wr (some X)) 1 (.int .i64 ((k : Int) + 1)))))
        go_wp2_with fail
        go_region
        go_wp2_with fail
        go_region
        go_wp2_with fail
        have hset := (HW.out.hk.grown (grown_set (World.grownBy.refl wr (some X)) 1 (.int .i64 ((k : Int) + 1))) (by have := HLT.out; simp; omega)).set (.int .i64 1) (.string ⟨acc.toArray⟩) (.int .i64 0) (.bool true) (.int .i64 0)
        have r0 := hset.c0; have r1 := hset.c1; have r2 := hset.c2; have r3 := hset.c3; have r4 := hset.c4
        refine bodyPost_ret (v := .tuple #[.agg #[.int .i64 1, .string ⟨acc.toArray⟩, .int .i64 0, .bool true, .int .i64 0], .int .i64 0]) (by simp [results, Tryz.results130, go_sem, r0, r1, r2, r3, r4]) rfl ⟨grown_drew (grown_drew (grown_tokSet (grown_trans HW.out.hg (grown_set (World.grownBy.refl wr (some X)) 1 (.int .i64 ((k : Int) + 1)))) (Nat.le_refl _) _ _ _ _ _)), ?_⟩
        rw [HW.out.hq, HQ.out]
        exact ⟨by simp [tokV], k + 1, hkl, rfl, ((HW.out.hx.set (k + 1)).tokSet (by have := HLT.out; omega) _ _ _ _ _).drew.drew⟩
      | false =>
        have H39 := Lib.hid (byteNot (d := 39) h39 (by decide))
        cases h10 : (((s[k]'hkl).toNat : Int) == 10) with
        | true =>
          have HQ := Lib.hid (show quotL (s.data.toList.drop k) = none by rw [HDR.out, byteN (d := 10) h10 (by decide), q10])
          go_wp2_with fail
          go_region
          go_wp2_with fail
          go_region
          go_wp2_with fail
          have hset := (HW.out.hk.grown (World.grownBy.refl wr (some X)) (by have := HLT.out; simp; omega)).set (.int .i64 0) (.string ⟨#[]⟩) (.int .i64 0) (.bool false) (.int .i64 0)
          have r0 := hset.c0; have r1 := hset.c1; have r2 := hset.c2; have r3 := hset.c3; have r4 := hset.c4
          refine bodyPost_ret (v := .tuple #[.agg #[.int .i64 0, .string ⟨#[]⟩, .int .i64 0, .bool false, .int .i64 0], .int .i64 2]) (by simp [results, Tryz.results130, go_sem, r0, r1, r2, r3, r4]) rfl ⟨(grown_drew (grown_drew (grown_tokSet (grown_trans HW.out.hg (World.grownBy.refl wr (some X))) (Nat.le_refl _) _ _ _ _ _))), ?_⟩
          rw [HW.out.hq, HQ.out]
          exact ⟨rfl, _, (HW.out.hx.tokSet (by have := HLT.out; omega) _ _ _ _ _).drew.drew⟩
        | false =>
          have H10 := Lib.hid (byteNot (d := 10) h10 (by decide))
          cases h92 : (((s[k]'hkl).toNat : Int) == 92) with
          | true =>
            have H92 := Lib.hid (byteN (d := 92) h92 (by decide))
            by_cases hk2 : k + 1 < s.size
            · have he : (((k : Int) + 1) == (s.size : Int)) = false := by simpa using (by omega : ¬ (k : Int) + 1 = (s.size : Int))
              have HDR2 := Lib.hid (drop_at hk2)
              obtain ⟨J, hJ⟩ : ∃ J, Lib.indexByte [110, 39, 92] ((s[k + 1]'hk2).toNat : Int).toNat.toUInt8 = J := ⟨_, rfl⟩
              have hJ2 : decide (J < 0) = !(s[k + 1] == 110 || s[k + 1] == 39 || s[k + 1] == 92) := by
                rw [← hJ, ← index_esc]
                simp
              have HJ := Lib.hid hJ
              clear hJ
              have C0 := Lib.hid (show (wr.setCell ⟨X, 1, none⟩ (.int .i64 ((k : Int) + 1))).cell? ⟨X, 0, none⟩ = some (.string s) from (HW.out.hx.set (k + 1)).cell0)
              have C1 := Lib.hid (show (wr.setCell ⟨X, 1, none⟩ (.int .i64 ((k : Int) + 1))).cell? ⟨X, 1, none⟩ = some (.int .i64 ((k : Int) + 1)) from (HW.out.hx.set (k + 1)).cell1)
              cases hin : (s[k + 1] == 110 || s[k + 1] == 39 || s[k + 1] == 92) with
              | false =>
                rw [hin] at hJ2
                have hJ3 : decide (J < 0) = true := hJ2
                have HQ := Lib.hid (show quotL (s.data.toList.drop k) = none by rw [HDR.out, H92.out, HDR2.out, q92, hin]; rfl)
                clear hJ2 hin
                go_wp2_with fail
                go_region
                go_wp2_with fail
                go_region
                go_wp2_with fail
                go_region_held3 (fun W => W.cell? ⟨X, 0, none⟩ = some (.string s) ∧ W.cell? ⟨X, 1, none⟩ = some (.int .i64 ((k : Int) + 1)))
                  ((go_split_ands; refine ⟨?_, ?_⟩; (focus (first | with_reducible assumption | (refine cell_below (w := wr.setCell ⟨X, 1, none⟩ (.int .i64 ((k : Int) + 1))) ?_ C0.out; (focus (repeat (first | with_reducible assumption | with_reducible exact Below.refl _ _ | with_reducible apply Below.drew)))))); (focus (first | with_reducible assumption | (refine cell_below (w := wr.setCell ⟨X, 1, none⟩ (.int .i64 ((k : Int) + 1))) ?_ C1.out; (focus (repeat (first | with_reducible assumption | with_reducible exact Below.refl _ _ | with_reducible apply Below.drew))))))))
                  (first
                    | (go_at_call 155; (with_reducible refine (Tryz.strings_IndexByte _ _ _).mono ?_); rintro e w' ⟨rfl, hw⟩; rw [hw, HJ.out]; clear hw))
                go_wp2_with fail
                have hset := (HW.out.hk.grown (grown_set (World.grownBy.refl wr (some X)) 1 (.int .i64 ((k : Int) + 1))) (by have := HLT.out; simp; omega)).set (.int .i64 0) (.string ⟨#[]⟩) (.int .i64 0) (.bool false) (.int .i64 0)
                have r0 := hset.c0; have r1 := hset.c1; have r2 := hset.c2; have r3 := hset.c3; have r4 := hset.c4
                refine bodyPost_ret (v := .tuple #[.agg #[.int .i64 0, .string ⟨#[]⟩, .int .i64 0, .bool false, .int .i64 0], .int .i64 2]) (by simp [results, Tryz.results130, go_sem, r0, r1, r2, r3, r4]) rfl ⟨(grown_drew (grown_drew (grown_drew (grown_tokSet (grown_trans HW.out.hg (grown_set (World.grownBy.refl wr (some X)) 1 (.int .i64 ((k : Int) + 1)))) (Nat.le_refl _) _ _ _ _ _)))), ?_⟩
                rw [HW.out.hq, HQ.out]
                exact ⟨rfl, _, ((HW.out.hx.set (k + 1)).tokSet (by have := HLT.out; omega) _ _ _ _ _).drew.drew.drew⟩
              | true =>
                rw [hin] at hJ2
                have hJ3 : decide (J < 0) = false := hJ2
                clear hJ2
                cases h110 : (((s[k + 1]'hk2).toNat : Int) == 110) with
                | true =>
                  have HQ := Lib.hid (show quotL (s.data.toList.drop k) = (quotL (s.data.toList.drop (k + 2))).map fun p => ((10 : UInt8) :: p.1, p.2) by
                    rw [HDR.out, H92.out, HDR2.out, q92, hin, if_pos rfl, byteN (d := 110) h110 (by decide)]
                    rfl)
                  clear hin
                  go_wp2_with fail
                  go_region
                  go_wp2_with fail
                  go_region
                  go_wp2_with fail
                  go_region_held3 (fun W => W.cell? ⟨X, 0, none⟩ = some (.string s) ∧ W.cell? ⟨X, 1, none⟩ = some (.int .i64 ((k : Int) + 1)))
                    ((go_split_ands; refine ⟨?_, ?_⟩; (focus (first | with_reducible assumption | (refine cell_below (w := wr.setCell ⟨X, 1, none⟩ (.int .i64 ((k : Int) + 1))) ?_ C0.out; (focus (repeat (first | with_reducible assumption | with_reducible exact Below.refl _ _ | with_reducible apply Below.drew)))))); (focus (first | with_reducible assumption | (refine cell_below (w := wr.setCell ⟨X, 1, none⟩ (.int .i64 ((k : Int) + 1))) ?_ C1.out; (focus (repeat (first | with_reducible assumption | with_reducible exact Below.refl _ _ | with_reducible apply Below.drew))))))))
                    (first
                      | (go_at_call 155; (with_reducible refine (Tryz.strings_IndexByte _ _ _).mono ?_); rintro e w' ⟨rfl, hw⟩; rw [hw, HJ.out]; clear hw))
                  go_wp2_with fail
                  go_region
                  go_wp2_with (at_builtin; refine RowKit.Hid.out ?_)
                  refine Lib.hid ?_
                  refine o_app (W := (wr.setCell ⟨X, 1, none⟩ (.int .i64 ((k : Int) + 1))).drew.drew.drew.drew) rfl (.tmp 101) (.tmp 103) 82 5 rfl (.int .u8 0) 1 1 Tryz.underlying82 u8_info rfl (by decide) (by decide) #[.int .u8 ((10 : UInt8).toNat : Int)] rfl (by intro u hu; simp at hu; subst hu; rfl) (.slice A acc.length c) acc.length (u8V acc) (by rfl) (o_keep HW.out.ho (grown_drew (grown_drew (grown_drew (grown_drew (grown_set (World.grownBy.refl wr (some X)) 1 (.int .i64 ((k : Int) + 1))))))) (by have := HLT.out; omega)) (by first | rfl | (show (Value.slice (some ⟨wr.heap.size, 0, none⟩) 1 1) = _; simp [World.setCell, World.drew])) (by have := HW.out.hn; omega) (by have := HW.out.hk; have := (Array.getElem?_eq_some_iff.1 this).1; simp; omega) ?_
                  intro A2 c2 W2 ho2 hg2
                  have hX2 : some X ≠ Value.ownBlock (.slice A acc.length c) := fun e => by have := o_from HW.out.ho X e.symm; have := HLT.out; omega
                  have ht2 := ((HW.out.hx.set (k + 1)).drew.drew.drew.drew).grown hg2 hX2
                  have d0 := ht2.cell0
                  have d1 := ht2.cell1
                  have df := ht2.free 1
                  have HT2 := Lib.hid ht2
                  have HO2 := Lib.hid ho2
                  have HG2 := Lib.hid hg2
                  clear ht2 ho2 hg2 hX2 c0 c1 cf
                  go_wp2_with fail
                  go_roundw
                  case rel => exact ⟨(k + 1) + 1, acc ++ [10], (by omega), HW.out.more HLT.out (grown_drew (grown_drew (grown_drew (grown_drew (grown_set (World.grownBy.refl wr (some X)) 1 (.int .i64 ((k : Int) + 1))))))) ((HW.out.hx.set (k + 1)).drew.drew.drew.drew) HO2.out rfl HG2.out rfl (by have := HW.out.hn; omega) HQ.out⟩
                  case measure =>
                    refine Nat.lt_of_le_of_lt (Nat.le_of_eq (congrArg (s.size - ·) (HT2.out.set ((k + 1) + 1)).textAt)) ?_
                    rw [HW.out.hx.textAt]
                    omega
                | false =>
                  have H110 := Lib.hid (byteNot (d := 110) h110 (by decide))
                  have HQ := Lib.hid (show quotL (s.data.toList.drop k) = (quotL (s.data.toList.drop (k + 2))).map fun p => (s[k + 1] :: p.1, p.2) by
                    rw [HDR.out, H92.out, HDR2.out, q92, hin, if_pos rfl, H110.out]
                    rfl)
                  clear hin
                  go_wp2_with fail
                  go_region
                  go_wp2_with fail
                  go_region
                  go_wp2_with fail
                  go_region_held3 (fun W => W.cell? ⟨X, 0, none⟩ = some (.string s) ∧ W.cell? ⟨X, 1, none⟩ = some (.int .i64 ((k : Int) + 1)))
                    ((go_split_ands; refine ⟨?_, ?_⟩; (focus (first | with_reducible assumption | (refine cell_below (w := wr.setCell ⟨X, 1, none⟩ (.int .i64 ((k : Int) + 1))) ?_ C0.out; (focus (repeat (first | with_reducible assumption | with_reducible exact Below.refl _ _ | with_reducible apply Below.drew)))))); (focus (first | with_reducible assumption | (refine cell_below (w := wr.setCell ⟨X, 1, none⟩ (.int .i64 ((k : Int) + 1))) ?_ C1.out; (focus (repeat (first | with_reducible assumption | with_reducible exact Below.refl _ _ | with_reducible apply Below.drew))))))))
                    (first
                      | (go_at_call 155; (with_reducible refine (Tryz.strings_IndexByte _ _ _).mono ?_); rintro e w' ⟨rfl, hw⟩; rw [hw, HJ.out]; clear hw))
                  go_wp2_with fail
                  go_region
                  go_wp2_with (at_builtin; refine RowKit.Hid.out ?_)
                  refine Lib.hid ?_
                  refine o_app (W := (wr.setCell ⟨X, 1, none⟩ (.int .i64 ((k : Int) + 1))).drew.drew.drew.drew) rfl (.tmp 101) (.tmp 103) 82 5 rfl (.int .u8 0) 1 1 Tryz.underlying82 u8_info rfl (by decide) (by decide) #[.int .u8 ((s[k + 1]'hk2).toNat : Int)] rfl (by intro u hu; simp at hu; subst hu; rfl) (.slice A acc.length c) acc.length (u8V acc) (by rfl) (o_keep HW.out.ho (grown_drew (grown_drew (grown_drew (grown_drew (grown_set (World.grownBy.refl wr (some X)) 1 (.int .i64 ((k : Int) + 1))))))) (by have := HLT.out; omega)) (by first | rfl | (show (Value.slice (some ⟨wr.heap.size, 0, none⟩) 1 1) = _; simp [World.setCell, World.drew])) (by have := HW.out.hn; omega) (by have := HW.out.hk; have := (Array.getElem?_eq_some_iff.1 this).1; simp; omega) ?_
                  intro A2 c2 W2 ho2 hg2
                  have hX2 : some X ≠ Value.ownBlock (.slice A acc.length c) := fun e => by have := o_from HW.out.ho X e.symm; have := HLT.out; omega
                  have ht2 := ((HW.out.hx.set (k + 1)).drew.drew.drew.drew).grown hg2 hX2
                  have d0 := ht2.cell0
                  have d1 := ht2.cell1
                  have df := ht2.free 1
                  have HT2 := Lib.hid ht2
                  have HO2 := Lib.hid ho2
                  have HG2 := Lib.hid hg2
                  clear ht2 ho2 hg2 hX2 c0 c1 cf
                  go_wp2_with fail
                  go_roundw
                  case rel => exact ⟨(k + 1) + 1, acc ++ [s[k + 1]], (by omega), HW.out.more HLT.out (grown_drew (grown_drew (grown_drew (grown_drew (grown_set (World.grownBy.refl wr (some X)) 1 (.int .i64 ((k : Int) + 1))))))) ((HW.out.hx.set (k + 1)).drew.drew.drew.drew) HO2.out rfl HG2.out rfl (by have := HW.out.hn; omega) HQ.out⟩
                  case measure =>
                    refine Nat.lt_of_le_of_lt (Nat.le_of_eq (congrArg (s.size - ·) (HT2.out.set ((k + 1) + 1)).textAt)) ?_
                    rw [HW.out.hx.textAt]
                    omega
            · have he : (((k : Int) + 1) == (s.size : Int)) = true := by simpa using (by omega : (k : Int) + 1 = (s.size : Int))
              have HQ := Lib.hid (show quotL (s.data.toList.drop k) = none by rw [HDR.out, H92.out, drop_end (by omega)]; rfl)
              go_wp2_with fail
              go_region
              go_wp2_with fail
              go_region
              go_wp2_with fail
              go_region
              go_wp2_with fail
              have hset := (HW.out.hk.grown (grown_set (World.grownBy.refl wr (some X)) 1 (.int .i64 ((k : Int) + 1))) (by have := HLT.out; simp; omega)).set (.int .i64 0) (.string ⟨#[]⟩) (.int .i64 0) (.bool false) (.int .i64 0)
              have r0 := hset.c0; have r1 := hset.c1; have r2 := hset.c2; have r3 := hset.c3; have r4 := hset.c4
              refine bodyPost_ret (v := .tuple #[.agg #[.int .i64 0, .string ⟨#[]⟩, .int .i64 0, .bool false, .int .i64 0], .int .i64 2]) (by simp [results, Tryz.results130, go_sem, r0, r1, r2, r3, r4]) rfl ⟨(grown_drew (grown_drew (grown_drew (grown_tokSet (grown_trans HW.out.hg (grown_set (World.grownBy.refl wr (some X)) 1 (.int .i64 ((k : Int) + 1)))) (Nat.le_refl _) _ _ _ _ _)))), ?_⟩
              rw [HW.out.hq, HQ.out]
              exact ⟨rfl, _, ((HW.out.hx.set (k + 1)).tokSet (by have := HLT.out; omega) _ _ _ _ _).drew.drew.drew⟩
          | false =>
            have HQ := Lib.hid (show quotL (s.data.toList.drop k) = (quotL (s.data.toList.drop (k + 1))).map fun p => (s[k] :: p.1, p.2) by rw [HDR.out, qother _ _ H39.out H10.out (byteNot (d := 92) h92 (by decide))])
            go_wp2_with fail
            go_region
            go_wp2_with fail
            go_region
            go_wp2_with (at_builtin; refine RowKit.Hid.out ?_)
            refine Lib.hid ?_
            refine o_app (W := wr.drew.drew) rfl (.tmp 101) (.tmp 103) 82 5 rfl (.int .u8 0) 1 1 Tryz.underlying82 u8_info rfl (by decide) (by decide) #[.int .u8 ((s[k]'hkl).toNat : Int)] rfl (by intro u hu; simp at hu; subst hu; rfl) (.slice A acc.length c) acc.length (u8V acc) (by rfl) (o_keep HW.out.ho (grown_drew (grown_drew (World.grownBy.refl wr (some X)))) (by have := HLT.out; omega)) (by first | rfl | (show (Value.slice (some ⟨wr.heap.size, 0, none⟩) 1 1) = _; simp [World.setCell, World.drew])) (by have := HW.out.hn; omega) (by have := HW.out.hk; have := (Array.getElem?_eq_some_iff.1 this).1; simp; omega) ?_
            intro A2 c2 W2 ho2 hg2
            have hX2 : some X ≠ Value.ownBlock (.slice A acc.length c) := fun e => by have := o_from HW.out.ho X e.symm; have := HLT.out; omega
            have ht2 := (HW.out.hx.drew.drew).grown hg2 hX2
            have d0 := ht2.cell0
            have d1 := ht2.cell1
            have df := ht2.free 1
            have HT2 := Lib.hid ht2
            have HO2 := Lib.hid ho2
            have HG2 := Lib.hid hg2
            clear ht2 ho2 hg2 hX2 c0 c1 cf
            go_wp2_with fail
            go_roundw
            case rel => exact ⟨k + 1, acc ++ [s[k]], hkl, HW.out.more HLT.out (grown_drew (grown_drew (World.grownBy.refl wr (some X)))) (HW.out.hx.drew.drew) HO2.out rfl HG2.out rfl (by have := HW.out.hn; omega) HQ.out⟩
            case measure =>
              refine Nat.lt_of_le_of_lt (Nat.le_of_eq (congrArg (s.size - ·) (HT2.out.set (k + 1)).textAt)) ?_
              rw [HW.out.hx.textAt]
              omega
    · have hd : decide ((k : Int) < (s.size : Int)) = false := decide_eq_false (by omega)
      have HQ := Lib.hid (show quotL (s.data.toList.drop k) = none by rw [drop_end (by omega)]; rfl)
      go_wp2_with fail
      go_region
      go_wp2_with fail
      have hset := (HW.out.hk.grown (World.grownBy.refl wr (some X)) (by have := HLT.out; simp; omega)).set (.int .i64 0) (.string ⟨#[]⟩) (.int .i64 0) (.bool false) (.int .i64 0)
      have r0 := hset.c0; have r1 := hset.c1; have r2 := hset.c2; have r3 := hset.c3; have r4 := hset.c4
      refine bodyPost_ret (v := .tuple #[.agg #[.int .i64 0, .string ⟨#[]⟩, .int .i64 0, .bool false, .int .i64 0], .int .i64 2]) (by simp [results, Tryz.results130, go_sem, r0, r1, r2, r3, r4]) rfl ⟨(grown_drew (grown_tokSet (grown_trans HW.out.hg (World.grownBy.refl wr (some X))) (Nat.le_refl _) _ _ _ _ _)), ?_⟩
      rw [HW.out.hq, HQ.out]
      exact ⟨rfl, _, (HW.out.hx.tokSet (by have := HLT.out; omega) _ _ _ _ _).drew⟩
end Go.Proofs.YtminbdcabacfbaaGreatDoor.V

namespace Go.Proofs.YtminbdcabacfbaaGreatDoor.V
set_option linter.unusedVariables false
set_option linter.unusedSimpArgs false
open Go.RowKit

/-- What a scanner hands back, cell by cell. -/
def OneV (X : Nat) (s : ByteArray) (g : Got) (W : World) (k : Int) (t : ByteArray) (n : Int) (q : Bool) (er : Int) : Prop := match g with
  | .bad m => k = 0 ∧ t = ⟨#[]⟩ ∧ n = 0 ∧ q = false ∧ er = (m : Int) ∧ ∃ b, IsText X s b W
  | .tok u r => k = (u.k : Int) ∧ t = ⟨u.s.toArray⟩ ∧ n = u.n ∧ q = u.q ∧ er = 0 ∧ ∃ b, b ≤ s.size ∧ s.data.toList.drop b = r ∧ IsText X s b W
theorem OneIs.cells {X : Nat} {s : ByteArray} {g : Got} {w w' : World} {e : Ending} (h : OneIs X s g w e w') : ∃ k t n q er, e = .returned (.tuple #[.agg #[.int .i64 k, .string t, .int .i64 n, .bool q, .int .i64 0], .int .i64 er]) ∧ w.grownBy w' (some X) ∧ OneV X s g w' k t n q er := by
  obtain ⟨hg, h⟩ := h
  cases g with
  | bad m =>
    obtain ⟨he, hb⟩ := h
    exact ⟨_, _, _, _, _, he, hg, rfl, rfl, rfl, rfl, rfl, hb⟩
  | tok u r =>
    obtain ⟨he, hb⟩ := h
    exact ⟨_, _, _, _, _, he, hg, rfl, rfl, rfl, rfl, rfl, hb⟩
theorem OneV.back {X : Nat} {s : ByteArray} {g : Got} {w w' W : World} {k n er : Int} {t : ByteArray} {q : Bool} (h : OneV X s g w' k t n q er) (hW : ∀ b, IsText X s b w' → IsText X s b W) (hg : w.grownBy W (some X)) :
    OneIs X s g w (.returned (.tuple #[.agg #[.int .i64 k, .string t, .int .i64 n, .bool q, .int .i64 0], .int .i64 er])) W := by
  refine ⟨hg, ?_⟩
  cases g with
  | bad m =>
    obtain ⟨rfl, rfl, rfl, rfl, rfl, b, hb⟩ := h
    exact ⟨rfl, b, hW b hb⟩
  | tok u r =>
    obtain ⟨rfl, rfl, rfl, rfl, rfl, b, hb, hd, hT⟩ := h
    exact ⟨rfl, b, hb, hd, hW b hT⟩
theorem named1_calls (X : Nat) (s : ByteArray) (a : Nat) (w : World) (hT : IsText X s a w) (ha : a ≤ s.size) (hs : s.size ≤ 65536) :
    Calls Tryz.prog 127 #[.pointer (some ⟨X, 0, none⟩), .int .i64 1] w (OneIs X s (namedL 1 (s.data.toList.drop a)) w) := named_calls 1 X s a w hT ha hs
theorem named2_calls (X : Nat) (s : ByteArray) (a : Nat) (w : World) (hT : IsText X s a w) (ha : a ≤ s.size) (hs : s.size ≤ 65536) :
    Calls Tryz.prog 127 #[.pointer (some ⟨X, 0, none⟩), .int .i64 2] w (OneIs X s (namedL 2 (s.data.toList.drop a)) w) := named_calls 2 X s a w hT ha hs
theorem prefix45 (c : UInt8) (t : List UInt8) : Lib.hasPrefix (c :: t) [45] = (c == 45) := by
  unfold Lib.hasPrefix
  simp only [List.isPrefixOf, Bool.and_true]
  cases h : (45 == c) <;> cases h2 : (c == 45) <;> simp_all
theorem moreB_at {P : Int → Bool} {s : ByteArray} {a : Nat} (h : a < s.size) : moreB P s a = ofB P s[a] := by unfold moreB; rw [dif_pos h]

set_option maxRecDepth 100000 in
set_option maxHeartbeats 4000000 in
theorem one_small (X : Nat) (s : ByteArray) (a : Nat) (w : World) (hT : IsText X s a w) (ha : a < s.size) (hs : s.size ≤ 65536) (hE : ErrW w) (h45 : (s[a] == 45) = false) (h1 : ofB sml s[a] = true) :
    Calls Tryz.prog 93 #[.pointer (some ⟨X, 0, none⟩)] w (OneIs X s (namedL 1 (s.data.toList.drop a)) w) := by
  have hx := hT.grown (World.grownBy_alloc w (.cells #[.int .i64 0, .string ⟨#[]⟩, .int .i64 0, .bool false, .int .i64 0] 71) none) (by simp)
  have x0 := hx.cell0
  have x1 := hx.cell1
  have HX := Lib.hid hx
  have C0 := Lib.hid x0
  have C1 := Lib.hid x1
  have HLT := Lib.hid hT.lt
  have HK := Lib.hid (IsTok.new (v0 := .int .i64 0) (v1 := .string ⟨#[]⟩) (v2 := .int .i64 0) (v3 := .bool false) (v4 := .int .i64 0) w)
  have HE := Lib.hid (hE.below ((Below.refl w.heap.size w).alloc (Nat.le_refl _) (.cells #[.int .i64 0, .string ⟨#[]⟩, .int .i64 0, .bool false, .int .i64 0] 71)))
  have HP := Lib.hid (show Lib.hasPrefix (s.extract a s.size).data.toList [45] = false by
    rw [show (s.extract a s.size).data.toList = s.data.toList.drop a by
      simp only [ByteArray.data_extract, Array.toList_extract, List.extract]
      rw [List.take_of_length_le (by simp)], drop_at ha, prefix45, h45])
  have HA := Lib.hid (show a ≤ s.size by omega)
  have HPC := Lib.hid (show ∀ w, Calls Tryz.prog 123 #[.string (s.extract a s.size), .string ⟨#[45]⟩] w fun e w' => e = .returned (.bool false) ∧ w' = w from fun w => by rw [← HP.out]; exact Tryz.strings_HasPrefix _ _ _)
  have ha2 : a ≤ s.size := HA.out
  have M0 := Lib.hid (show moreB sml s a = true by rw [moreB_at ha]; exact h1)
  have b39 := 0
  clear b39 hT hx hE h45 h1
  go_enter Tryz.func93, Tryz.ntmps93
  go_wp2_with fail
  go_quiet (first | (go_at_call 123; refine Calls.quiet_of_same (HPC.out _)))
  generalize hW1 : World.drewN _ _ = W1
  have HX1 := Lib.hid (show IsText X s a W1 by rw [← hW1]; exact HX.out)
  have HK1 := Lib.hid (show IsTok w.heap.size (.int .i64 0) (.string ⟨#[]⟩) (.int .i64 0) (.bool false) (.int .i64 0) W1 by rw [← hW1]; exact HK.out)
  have HE1 := Lib.hid (show ErrW W1 by rw [← hW1]; exact HE.out)
  have HG1 := Lib.hid (show w.grownBy W1 (some X) by rw [← hW1]; exact grown_trans (World.grownBy_alloc w (.cells #[.int .i64 0, .string ⟨#[]⟩, .int .i64 0, .bool false, .int .i64 0] 71) _) (grown_below (below_drewN' (Below.refl _ _) _) _))
  have c0 := HX1.out.cell0
  have c1 := HX1.out.cell1
  clear hW1 x0 x1
  go_wp2_with (first
    | (go_at_call 118; (with_reducible refine (more_calls en_small tsmall_calls X s a _ ?_).mono ?_); (focus (exact HX1.out)); rintro e w' ⟨rfl, rfl⟩; rw [M0.out])
    | (go_at_call 127; (with_reducible refine (named1_calls X s a _ ?_ HA.out hs).mono ?_); (focus (exact HX1.out)); rintro e w2 ho; obtain ⟨k, t, n, q, er, rfl, hg2, hv⟩ := ho.cells; have hk2 := HK1.out.grown (row := some X) (grown_trans (grown_drew (World.grownBy.refl _ (some X))) hg2) (by have := HLT.out; simp; omega); have k0 := hk2.c0; have k1 := hk2.c1; have k2 := hk2.c2; have k3 := hk2.c3; have k4 := hk2.c4; have l0 := hk2.fr 0; have l1 := hk2.fr 1; have l2 := hk2.fr 2; have l3 := hk2.fr 3; have l4 := hk2.fr 4; have HK2 := Lib.hid hk2; have HG2 := Lib.hid hg2; have HV := Lib.hid hv; clear hk2 hg2 hv ho))
  have hset := HK2.out.set (.int .i64 k) (.string t) (.int .i64 n) (.bool q) (.int .i64 0)
  have r0 := hset.c0; have r1 := hset.c1; have r2 := hset.c2; have r3 := hset.c3; have r4 := hset.c4
  refine bodyPost_ret (v := .tuple #[.agg #[.int .i64 k, .string t, .int .i64 n, .bool q, .int .i64 0], .int .i64 er]) (by simp [results, Tryz.results93, go_sem, r0, r1, r2, r3, r4]) rfl ?_
  exact HV.out.back (fun b hb => hb.tokSet (by have := HLT.out; omega) _ _ _ _ _) (grown_tokSet (grown_trans HG1.out (grown_trans (grown_drew (World.grownBy.refl _ (some X))) HG2.out)) (Nat.le_refl _) _ _ _ _ _)

set_option maxRecDepth 100000 in
set_option maxHeartbeats 4000000 in
theorem one_big (X : Nat) (s : ByteArray) (a : Nat) (w : World) (hT : IsText X s a w) (ha : a < s.size) (hs : s.size ≤ 65536) (hE : ErrW w) (h45 : (s[a] == 45) = false) (h1 : ofB sml s[a] = false) (h2 : ofB bgI s[a] = true) :
    Calls Tryz.prog 93 #[.pointer (some ⟨X, 0, none⟩)] w (OneIs X s (namedL 2 (s.data.toList.drop a)) w) := by
  have hx := hT.grown (World.grownBy_alloc w (.cells #[.int .i64 0, .string ⟨#[]⟩, .int .i64 0, .bool false, .int .i64 0] 71) none) (by simp)
  have x0 := hx.cell0
  have x1 := hx.cell1
  have HX := Lib.hid hx
  have C0 := Lib.hid x0
  have C1 := Lib.hid x1
  have HLT := Lib.hid hT.lt
  have HK := Lib.hid (IsTok.new (v0 := .int .i64 0) (v1 := .string ⟨#[]⟩) (v2 := .int .i64 0) (v3 := .bool false) (v4 := .int .i64 0) w)
  have HE := Lib.hid (hE.below ((Below.refl w.heap.size w).alloc (Nat.le_refl _) (.cells #[.int .i64 0, .string ⟨#[]⟩, .int .i64 0, .bool false, .int .i64 0] 71)))
  have HP := Lib.hid (show Lib.hasPrefix (s.extract a s.size).data.toList [45] = false by
    rw [show (s.extract a s.size).data.toList = s.data.toList.drop a by
      simp only [ByteArray.data_extract, Array.toList_extract, List.extract]
      rw [List.take_of_length_le (by simp)], drop_at ha, prefix45, h45])
  have HA := Lib.hid (show a ≤ s.size by omega)
  have HPC := Lib.hid (show ∀ w, Calls Tryz.prog 123 #[.string (s.extract a s.size), .string ⟨#[45]⟩] w fun e w' => e = .returned (.bool false) ∧ w' = w from fun w => by rw [← HP.out]; exact Tryz.strings_HasPrefix _ _ _)
  have ha2 : a ≤ s.size := HA.out
  have M0 := Lib.hid (show moreB sml s a = false by rw [moreB_at ha]; exact h1)
  have M1 := Lib.hid (show moreB bgI s a = true by rw [moreB_at ha]; exact h2)
  have b39 := 0
  clear b39 hT hx hE h45 h1 h2
  go_enter Tryz.func93, Tryz.ntmps93
  go_wp2_with fail
  go_quiet (first | (go_at_call 123; refine Calls.quiet_of_same (HPC.out _)))
  generalize hW1 : World.drewN _ _ = W1
  have HX1 := Lib.hid (show IsText X s a W1 by rw [← hW1]; exact HX.out)
  have HK1 := Lib.hid (show IsTok w.heap.size (.int .i64 0) (.string ⟨#[]⟩) (.int .i64 0) (.bool false) (.int .i64 0) W1 by rw [← hW1]; exact HK.out)
  have HE1 := Lib.hid (show ErrW W1 by rw [← hW1]; exact HE.out)
  have HG1 := Lib.hid (show w.grownBy W1 (some X) by rw [← hW1]; exact grown_trans (World.grownBy_alloc w (.cells #[.int .i64 0, .string ⟨#[]⟩, .int .i64 0, .bool false, .int .i64 0] 71) _) (grown_below (below_drewN' (Below.refl _ _) _) _))
  have c0 := HX1.out.cell0
  have c1 := HX1.out.cell1
  clear hW1 x0 x1
  go_wp2_with (first
    | (go_at_call 118; (with_reducible refine (more_calls en_small tsmall_calls X s a _ ?_).mono ?_); (focus (exact HX1.out)); rintro e w' ⟨rfl, rfl⟩; rw [M0.out])
    | (go_at_call 118; (with_reducible refine (more_calls en_big tbig_calls X s a _ ?_).mono ?_); (focus (exact HX1.out)); rintro e w' ⟨rfl, rfl⟩; rw [M1.out])
    | (go_at_call 127; (with_reducible refine (named2_calls X s a _ ?_ HA.out hs).mono ?_); (focus (exact HX1.out)); rintro e w2 ho; obtain ⟨k, t, n, q, er, rfl, hg2, hv⟩ := ho.cells; have hk2 := HK1.out.grown (row := some X) (grown_trans (grown_drew (grown_drew (World.grownBy.refl _ (some X)))) hg2) (by have := HLT.out; simp; omega); have k0 := hk2.c0; have k1 := hk2.c1; have k2 := hk2.c2; have k3 := hk2.c3; have k4 := hk2.c4; have l0 := hk2.fr 0; have l1 := hk2.fr 1; have l2 := hk2.fr 2; have l3 := hk2.fr 3; have l4 := hk2.fr 4; have HK2 := Lib.hid hk2; have HG2 := Lib.hid hg2; have HV := Lib.hid hv; clear hk2 hg2 hv ho))
  have hset := HK2.out.set (.int .i64 k) (.string t) (.int .i64 n) (.bool q) (.int .i64 0)
  have r0 := hset.c0; have r1 := hset.c1; have r2 := hset.c2; have r3 := hset.c3; have r4 := hset.c4
  refine bodyPost_ret (v := .tuple #[.agg #[.int .i64 k, .string t, .int .i64 n, .bool q, .int .i64 0], .int .i64 er]) (by simp [results, Tryz.results93, go_sem, r0, r1, r2, r3, r4]) rfl ?_
  exact HV.out.back (fun b hb => hb.tokSet (by have := HLT.out; omega) _ _ _ _ _) (grown_tokSet (grown_trans HG1.out (grown_trans (grown_drew (grown_drew (World.grownBy.refl _ (some X)))) HG2.out)) (Nat.le_refl _) _ _ _ _ _)

set_option maxRecDepth 100000 in
set_option maxHeartbeats 4000000 in
theorem one_fig (X : Nat) (s : ByteArray) (a : Nat) (w : World) (hT : IsText X s a w) (ha : a < s.size) (hs : s.size ≤ 65536) (hE : ErrW w) (h45 : (s[a] == 45) = false) (h1 : ofB sml s[a] = false) (h2 : ofB bgI s[a] = false) (h3 : ofB figI s[a] = true) :
    Calls Tryz.prog 93 #[.pointer (some ⟨X, 0, none⟩)] w (OneIs X s (numL s[a] (s.data.toList.drop (a + 1))) w) := by
  have hx := hT.grown (World.grownBy_alloc w (.cells #[.int .i64 0, .string ⟨#[]⟩, .int .i64 0, .bool false, .int .i64 0] 71) none) (by simp)
  have x0 := hx.cell0
  have x1 := hx.cell1
  have HX := Lib.hid hx
  have C0 := Lib.hid x0
  have C1 := Lib.hid x1
  have HLT := Lib.hid hT.lt
  have HK := Lib.hid (IsTok.new (v0 := .int .i64 0) (v1 := .string ⟨#[]⟩) (v2 := .int .i64 0) (v3 := .bool false) (v4 := .int .i64 0) w)
  have HE := Lib.hid (hE.below ((Below.refl w.heap.size w).alloc (Nat.le_refl _) (.cells #[.int .i64 0, .string ⟨#[]⟩, .int .i64 0, .bool false, .int .i64 0] 71)))
  have HP := Lib.hid (show Lib.hasPrefix (s.extract a s.size).data.toList [45] = false by
    rw [show (s.extract a s.size).data.toList = s.data.toList.drop a by
      simp only [ByteArray.data_extract, Array.toList_extract, List.extract]
      rw [List.take_of_length_le (by simp)], drop_at ha, prefix45, h45])
  have HA := Lib.hid (show a ≤ s.size by omega)
  have HPC := Lib.hid (show ∀ w, Calls Tryz.prog 123 #[.string (s.extract a s.size), .string ⟨#[45]⟩] w fun e w' => e = .returned (.bool false) ∧ w' = w from fun w => by rw [← HP.out]; exact Tryz.strings_HasPrefix _ _ _)
  have ha2 : a ≤ s.size := HA.out
  have M0 := Lib.hid (show moreB sml s a = false by rw [moreB_at ha]; exact h1)
  have M1 := Lib.hid (show moreB bgI s a = false by rw [moreB_at ha]; exact h2)
  have M2 := Lib.hid (show moreB figI s a = true by rw [moreB_at ha]; exact h3)
  have b39 := 0
  clear b39 hT hx hE h45 h1 h2 h3
  go_enter Tryz.func93, Tryz.ntmps93
  go_wp2_with fail
  go_quiet (first | (go_at_call 123; refine Calls.quiet_of_same (HPC.out _)))
  generalize hW1 : World.drewN _ _ = W1
  have HX1 := Lib.hid (show IsText X s a W1 by rw [← hW1]; exact HX.out)
  have HK1 := Lib.hid (show IsTok w.heap.size (.int .i64 0) (.string ⟨#[]⟩) (.int .i64 0) (.bool false) (.int .i64 0) W1 by rw [← hW1]; exact HK.out)
  have HE1 := Lib.hid (show ErrW W1 by rw [← hW1]; exact HE.out)
  have HG1 := Lib.hid (show w.grownBy W1 (some X) by rw [← hW1]; exact grown_trans (World.grownBy_alloc w (.cells #[.int .i64 0, .string ⟨#[]⟩, .int .i64 0, .bool false, .int .i64 0] 71) _) (grown_below (below_drewN' (Below.refl _ _) _) _))
  have c0 := HX1.out.cell0
  have c1 := HX1.out.cell1
  clear hW1 x0 x1
  go_wp2_with (first
    | (go_at_call 118; (with_reducible refine (more_calls en_small tsmall_calls X s a _ ?_).mono ?_); (focus (exact HX1.out)); rintro e w' ⟨rfl, rfl⟩; rw [M0.out])
    | (go_at_call 118; (with_reducible refine (more_calls en_big tbig_calls X s a _ ?_).mono ?_); (focus (exact HX1.out)); rintro e w' ⟨rfl, rfl⟩; rw [M1.out])
    | (go_at_call 118; (with_reducible refine (more_calls en_fig tfig_calls X s a _ ?_).mono ?_); (focus (exact HX1.out)); rintro e w' ⟨rfl, rfl⟩; rw [M2.out])
    | (go_at_call 129; (with_reducible refine (number_calls X s a _ ?_ ha hs ?_).mono ?_); (focus (exact HX1.out)); (focus (exact HE1.out)); rintro e w2 ho; obtain ⟨k, t, n, q, er, rfl, hg2, hv⟩ := ho.cells; have hk2 := HK1.out.grown (row := some X) (grown_trans (grown_drew (grown_drew (grown_drew (World.grownBy.refl _ (some X))))) hg2) (by have := HLT.out; simp; omega); have k0 := hk2.c0; have k1 := hk2.c1; have k2 := hk2.c2; have k3 := hk2.c3; have k4 := hk2.c4; have l0 := hk2.fr 0; have l1 := hk2.fr 1; have l2 := hk2.fr 2; have l3 := hk2.fr 3; have l4 := hk2.fr 4; have HK2 := Lib.hid hk2; have HG2 := Lib.hid hg2; have HV := Lib.hid hv; clear hk2 hg2 hv ho))
  have hset := HK2.out.set (.int .i64 k) (.string t) (.int .i64 n) (.bool q) (.int .i64 0)
  have r0 := hset.c0; have r1 := hset.c1; have r2 := hset.c2; have r3 := hset.c3; have r4 := hset.c4
  refine bodyPost_ret (v := .tuple #[.agg #[.int .i64 k, .string t, .int .i64 n, .bool q, .int .i64 0], .int .i64 er]) (by simp [results, Tryz.results93, go_sem, r0, r1, r2, r3, r4]) rfl ?_
  exact HV.out.back (fun b hb => hb.tokSet (by have := HLT.out; omega) _ _ _ _ _) (grown_tokSet (grown_trans HG1.out (grown_trans (grown_drew (grown_drew (grown_drew (World.grownBy.refl _ (some X))))) HG2.out)) (Nat.le_refl _) _ _ _ _ _)

set_option maxRecDepth 100000 in
set_option maxHeartbeats 4000000 in
theorem one_neg (X : Nat) (s : ByteArray) (a : Nat) (w : World) (hT : IsText X s a w) (ha : a < s.size) (hs : s.size ≤ 65536) (hE : ErrW w) (h45 : (s[a] == 45) = true) (hk2 : a + 1 < s.size) (h4 : ofB figI s[a + 1] = true) (h1 : ofB sml s[a] = false) (h2 : ofB bgI s[a] = false) (h3 : ofB figI s[a] = false) :
    Calls Tryz.prog 93 #[.pointer (some ⟨X, 0, none⟩)] w (OneIs X s (numL s[a] (s.data.toList.drop (a + 1))) w) := by
  have hx := hT.grown (World.grownBy_alloc w (.cells #[.int .i64 0, .string ⟨#[]⟩, .int .i64 0, .bool false, .int .i64 0] 71) none) (by simp)
  have x0 := hx.cell0
  have x1 := hx.cell1
  have HX := Lib.hid hx
  have C0 := Lib.hid x0
  have C1 := Lib.hid x1
  have HLT := Lib.hid hT.lt
  have HK := Lib.hid (IsTok.new (v0 := .int .i64 0) (v1 := .string ⟨#[]⟩) (v2 := .int .i64 0) (v3 := .bool false) (v4 := .int .i64 0) w)
  have HE := Lib.hid (hE.below ((Below.refl w.heap.size w).alloc (Nat.le_refl _) (.cells #[.int .i64 0, .string ⟨#[]⟩, .int .i64 0, .bool false, .int .i64 0] 71)))
  have HP := Lib.hid (show Lib.hasPrefix (s.extract a s.size).data.toList [45] = true by
    rw [show (s.extract a s.size).data.toList = s.data.toList.drop a by
      simp only [ByteArray.data_extract, Array.toList_extract, List.extract]
      rw [List.take_of_length_le (by simp)], drop_at ha, prefix45, h45])
  have HA := Lib.hid (show a ≤ s.size by omega)
  have HPC := Lib.hid (show ∀ w, Calls Tryz.prog 123 #[.string (s.extract a s.size), .string ⟨#[45]⟩] w fun e w' => e = .returned (.bool true) ∧ w' = w from fun w => by rw [← HP.out]; exact Tryz.strings_HasPrefix _ _ _)
  have ha2 : a ≤ s.size := HA.out
  have M0 := Lib.hid (show moreB sml s a = false by rw [moreB_at ha]; exact h1)
  have M1 := Lib.hid (show moreB bgI s a = false by rw [moreB_at ha]; exact h2)
  have M2 := Lib.hid (show moreB figI s a = false by rw [moreB_at ha]; exact h3)
  have hlt2 : decide ((a : Int) + 1 < (s.size : Int)) = true := decide_eq_true (by omega)
  have hlt3 : (a : Int) + 1 < (s.size : Int) := by omega
  have hwr : IntKind.i64.wrap ((a : Int) + 1) = (a : Int) + 1 := IntWalk.i64_in _ (by omega)
  have HF := Lib.hid (show figI ((s[a + 1]'hk2).toNat : Int) = true from h4)
  have HFC := Lib.hid (show ∀ w, Calls Tryz.prog 124 #[.int .u8 ((s[a + 1]'hk2).toNat : Int)] w fun e w' => e = .returned (.bool true) ∧ w' = w from fun w => (tfig_calls _ w).mono (by rintro e w' ⟨rfl, rfl⟩; exact ⟨by rw [HF.out], rfl⟩))
  have b39 := 0
  clear b39 hT hx hE h45 h1 h2 h3 h4
  go_enter Tryz.func93, Tryz.ntmps93
  go_wp2_with fail
  go_region_held3 (fun W => W.cell? ⟨X, 0, none⟩ = some (.string s) ∧ W.cell? ⟨X, 1, none⟩ = some (.int .i64 (a : Int)))
    ((go_split_ands; refine ⟨?_, ?_⟩; (focus (first | with_reducible assumption | (refine cell_below (w := w.alloc (.cells #[.int .i64 0, .string ⟨#[]⟩, .int .i64 0, .bool false, .int .i64 0] 71)) ?_ C0.out; (focus (repeat (first | with_reducible assumption | with_reducible exact Below.refl _ _ | with_reducible apply Below.drew)))))); (focus (first | with_reducible assumption | (refine cell_below (w := w.alloc (.cells #[.int .i64 0, .string ⟨#[]⟩, .int .i64 0, .bool false, .int .i64 0] 71)) ?_ C1.out; (focus (repeat (first | with_reducible assumption | with_reducible exact Below.refl _ _ | with_reducible apply Below.drew))))))))
    (first
      | (go_at_call 123; (with_reducible refine (HPC.out _).mono ?_); rintro e w' ⟨rfl, hw⟩; rw [hw]; clear hw)
      | (go_at_call 124; (with_reducible refine (HFC.out _).mono ?_); rintro e w' ⟨rfl, hw⟩; rw [hw]; clear hw))
  generalize hW1 : World.drew _ = W1
  have HX1 := Lib.hid (show IsText X s a W1 by rw [← hW1]; exact HX.out)
  have HK1 := Lib.hid (show IsTok w.heap.size (.int .i64 0) (.string ⟨#[]⟩) (.int .i64 0) (.bool false) (.int .i64 0) W1 by rw [← hW1]; exact HK.out)
  have HE1 := Lib.hid (show ErrW W1 by rw [← hW1]; exact HE.out)
  have HG1 := Lib.hid (show w.grownBy W1 (some X) by rw [← hW1]; exact grown_trans (World.grownBy_alloc w (.cells #[.int .i64 0, .string ⟨#[]⟩, .int .i64 0, .bool false, .int .i64 0] 71) _) (grown_below (Below.refl _ _).drew _))
  have c0 := HX1.out.cell0
  have c1 := HX1.out.cell1
  clear hW1 x0 x1
  go_wp2_with (first
    | (go_at_call 118; (with_reducible refine (more_calls en_small tsmall_calls X s a _ ?_).mono ?_); (focus (exact HX1.out)); rintro e w' ⟨rfl, rfl⟩; rw [M0.out])
    | (go_at_call 118; (with_reducible refine (more_calls en_big tbig_calls X s a _ ?_).mono ?_); (focus (exact HX1.out)); rintro e w' ⟨rfl, rfl⟩; rw [M1.out])
    | (go_at_call 118; (with_reducible refine (more_calls en_fig tfig_calls X s a _ ?_).mono ?_); (focus (exact HX1.out)); rintro e w' ⟨rfl, rfl⟩; rw [M2.out])
    | (go_at_call 129; (with_reducible refine (number_calls X s a _ ?_ ha hs ?_).mono ?_); (focus (exact HX1.out)); (focus (exact HE1.out)); rintro e w2 ho; obtain ⟨k, t, n, q, er, rfl, hg2, hv⟩ := ho.cells; have hk2 := HK1.out.grown (row := some X) (grown_trans (grown_drew (grown_drew (grown_drew (World.grownBy.refl _ (some X))))) hg2) (by have := HLT.out; simp; omega); have k0 := hk2.c0; have k1 := hk2.c1; have k2 := hk2.c2; have k3 := hk2.c3; have k4 := hk2.c4; have l0 := hk2.fr 0; have l1 := hk2.fr 1; have l2 := hk2.fr 2; have l3 := hk2.fr 3; have l4 := hk2.fr 4; have HK2 := Lib.hid hk2; have HG2 := Lib.hid hg2; have HV := Lib.hid hv; clear hk2 hg2 hv ho))
  have hset := HK2.out.set (.int .i64 k) (.string t) (.int .i64 n) (.bool q) (.int .i64 0)
  have r0 := hset.c0; have r1 := hset.c1; have r2 := hset.c2; have r3 := hset.c3; have r4 := hset.c4
  refine bodyPost_ret (v := .tuple #[.agg #[.int .i64 k, .string t, .int .i64 n, .bool q, .int .i64 0], .int .i64 er]) (by simp [results, Tryz.results93, go_sem, r0, r1, r2, r3, r4]) rfl ?_
  exact HV.out.back (fun b hb => hb.tokSet (by have := HLT.out; omega) _ _ _ _ _) (grown_tokSet (grown_trans HG1.out (grown_trans (grown_drew (grown_drew (grown_drew (World.grownBy.refl _ (some X))))) HG2.out)) (Nat.le_refl _) _ _ _ _ _)

set_option maxRecDepth 100000 in
set_option maxHeartbeats 4000000 in
theorem one_quot (X : Nat) (s : ByteArray) (a : Nat) (w : World) (hT : IsText X s a w) (ha : a < s.size) (hs : s.size ≤ 65536) (hE : ErrW w) (h45 : (s[a] == 45) = false) (h1 : ofB sml s[a] = false) (h2 : ofB bgI s[a] = false) (h3 : ofB figI s[a] = false) (h39 : (((s[a]'ha).toNat : Int) == 39) = true) :
    Calls Tryz.prog 93 #[.pointer (some ⟨X, 0, none⟩)] w (OneIs X s (qres (quotL (s.data.toList.drop (a + 1)))) w) := by
  have hx := hT.grown (World.grownBy_alloc w (.cells #[.int .i64 0, .string ⟨#[]⟩, .int .i64 0, .bool false, .int .i64 0] 71) none) (by simp)
  have x0 := hx.cell0
  have x1 := hx.cell1
  have HX := Lib.hid hx
  have C0 := Lib.hid x0
  have C1 := Lib.hid x1
  have HLT := Lib.hid hT.lt
  have HK := Lib.hid (IsTok.new (v0 := .int .i64 0) (v1 := .string ⟨#[]⟩) (v2 := .int .i64 0) (v3 := .bool false) (v4 := .int .i64 0) w)
  have HE := Lib.hid (hE.below ((Below.refl w.heap.size w).alloc (Nat.le_refl _) (.cells #[.int .i64 0, .string ⟨#[]⟩, .int .i64 0, .bool false, .int .i64 0] 71)))
  have HP := Lib.hid (show Lib.hasPrefix (s.extract a s.size).data.toList [45] = false by
    rw [show (s.extract a s.size).data.toList = s.data.toList.drop a by
      simp only [ByteArray.data_extract, Array.toList_extract, List.extract]
      rw [List.take_of_length_le (by simp)], drop_at ha, prefix45, h45])
  have HA := Lib.hid (show a ≤ s.size by omega)
  have HPC := Lib.hid (show ∀ w, Calls Tryz.prog 123 #[.string (s.extract a s.size), .string ⟨#[45]⟩] w fun e w' => e = .returned (.bool false) ∧ w' = w from fun w => by rw [← HP.out]; exact Tryz.strings_HasPrefix _ _ _)
  have ha2 : a ≤ s.size := HA.out
  have M0 := Lib.hid (show moreB sml s a = false by rw [moreB_at ha]; exact h1)
  have M1 := Lib.hid (show moreB bgI s a = false by rw [moreB_at ha]; exact h2)
  have M2 := Lib.hid (show moreB figI s a = false by rw [moreB_at ha]; exact h3)
  have b39 := 0
  clear b39 hT hx hE h45 h1 h2 h3
  go_enter Tryz.func93, Tryz.ntmps93
  go_wp2_with fail
  go_quiet (first | (go_at_call 123; refine Calls.quiet_of_same (HPC.out _)))
  generalize hW1 : World.drewN _ _ = W1
  have HX1 := Lib.hid (show IsText X s a W1 by rw [← hW1]; exact HX.out)
  have HK1 := Lib.hid (show IsTok w.heap.size (.int .i64 0) (.string ⟨#[]⟩) (.int .i64 0) (.bool false) (.int .i64 0) W1 by rw [← hW1]; exact HK.out)
  have HE1 := Lib.hid (show ErrW W1 by rw [← hW1]; exact HE.out)
  have HG1 := Lib.hid (show w.grownBy W1 (some X) by rw [← hW1]; exact grown_trans (World.grownBy_alloc w (.cells #[.int .i64 0, .string ⟨#[]⟩, .int .i64 0, .bool false, .int .i64 0] 71) _) (grown_below (below_drewN' (Below.refl _ _) _) _))
  have c0 := HX1.out.cell0
  have c1 := HX1.out.cell1
  clear hW1 x0 x1
  go_wp2_with (first
    | (go_at_call 118; (with_reducible refine (more_calls en_small tsmall_calls X s a _ ?_).mono ?_); (focus (exact HX1.out)); rintro e w' ⟨rfl, rfl⟩; rw [M0.out])
    | (go_at_call 118; (with_reducible refine (more_calls en_big tbig_calls X s a _ ?_).mono ?_); (focus (exact HX1.out)); rintro e w' ⟨rfl, rfl⟩; rw [M1.out])
    | (go_at_call 118; (with_reducible refine (more_calls en_fig tfig_calls X s a _ ?_).mono ?_); (focus (exact HX1.out)); rintro e w' ⟨rfl, rfl⟩; rw [M2.out]))
  go_region
  go_wp2_with (first
    | (go_at_call 130; (with_reducible refine (quoted_calls X s a _ ?_ ha hs).mono ?_); (focus (exact HX1.out)); rintro e w2 ho; obtain ⟨k, t, n, q, er, rfl, hg2, hv⟩ := ho.cells; have hk2 := HK1.out.grown (row := some X) (grown_trans (grown_drew (grown_drew (grown_drew (grown_drew (World.grownBy.refl _ (some X)))))) hg2) (by have := HLT.out; simp; omega); have k0 := hk2.c0; have k1 := hk2.c1; have k2 := hk2.c2; have k3 := hk2.c3; have k4 := hk2.c4; have l0 := hk2.fr 0; have l1 := hk2.fr 1; have l2 := hk2.fr 2; have l3 := hk2.fr 3; have l4 := hk2.fr 4; have HK2 := Lib.hid hk2; have HG2 := Lib.hid hg2; have HV := Lib.hid hv; clear hk2 hg2 hv ho))
  have hset := HK2.out.set (.int .i64 k) (.string t) (.int .i64 n) (.bool q) (.int .i64 0)
  have r0 := hset.c0; have r1 := hset.c1; have r2 := hset.c2; have r3 := hset.c3; have r4 := hset.c4
  refine bodyPost_ret (v := .tuple #[.agg #[.int .i64 k, .string t, .int .i64 n, .bool q, .int .i64 0], .int .i64 er]) (by simp [results, Tryz.results93, go_sem, r0, r1, r2, r3, r4]) rfl ?_
  exact HV.out.back (fun b hb => hb.tokSet (by have := HLT.out; omega) _ _ _ _ _) (grown_tokSet (grown_trans HG1.out (grown_trans (grown_drew (grown_drew (grown_drew (grown_drew (World.grownBy.refl _ (some X)))))) HG2.out)) (Nat.le_refl _) _ _ _ _ _)

set_option maxRecDepth 100000 in
set_option maxHeartbeats 4000000 in
theorem one_mark (X : Nat) (s : ByteArray) (a : Nat) (w : World) (hT : IsText X s a w) (ha : a < s.size) (hs : s.size ≤ 65536) (hE : ErrW w) (h45 : (s[a] == 45) = false) (h1 : ofB sml s[a] = false) (h2 : ofB bgI s[a] = false) (h3 : ofB figI s[a] = false) (h39 : (((s[a]'ha).toNat : Int) == 39) = false) :
    Calls Tryz.prog 93 #[.pointer (some ⟨X, 0, none⟩)] w (OneIs X s (markL (s.data.toList.drop a)) w) := by
  have hx := hT.grown (World.grownBy_alloc w (.cells #[.int .i64 0, .string ⟨#[]⟩, .int .i64 0, .bool false, .int .i64 0] 71) none) (by simp)
  have x0 := hx.cell0
  have x1 := hx.cell1
  have HX := Lib.hid hx
  have C0 := Lib.hid x0
  have C1 := Lib.hid x1
  have HLT := Lib.hid hT.lt
  have HK := Lib.hid (IsTok.new (v0 := .int .i64 0) (v1 := .string ⟨#[]⟩) (v2 := .int .i64 0) (v3 := .bool false) (v4 := .int .i64 0) w)
  have HE := Lib.hid (hE.below ((Below.refl w.heap.size w).alloc (Nat.le_refl _) (.cells #[.int .i64 0, .string ⟨#[]⟩, .int .i64 0, .bool false, .int .i64 0] 71)))
  have HP := Lib.hid (show Lib.hasPrefix (s.extract a s.size).data.toList [45] = false by
    rw [show (s.extract a s.size).data.toList = s.data.toList.drop a by
      simp only [ByteArray.data_extract, Array.toList_extract, List.extract]
      rw [List.take_of_length_le (by simp)], drop_at ha, prefix45, h45])
  have HA := Lib.hid (show a ≤ s.size by omega)
  have HPC := Lib.hid (show ∀ w, Calls Tryz.prog 123 #[.string (s.extract a s.size), .string ⟨#[45]⟩] w fun e w' => e = .returned (.bool false) ∧ w' = w from fun w => by rw [← HP.out]; exact Tryz.strings_HasPrefix _ _ _)
  have ha2 : a ≤ s.size := HA.out
  have M0 := Lib.hid (show moreB sml s a = false by rw [moreB_at ha]; exact h1)
  have M1 := Lib.hid (show moreB bgI s a = false by rw [moreB_at ha]; exact h2)
  have M2 := Lib.hid (show moreB figI s a = false by rw [moreB_at ha]; exact h3)
  have b39 := 0
  clear b39 hT hx hE h45 h1 h2 h3
  go_enter Tryz.func93, Tryz.ntmps93
  go_wp2_with fail
  go_quiet (first | (go_at_call 123; refine Calls.quiet_of_same (HPC.out _)))
  generalize hW1 : World.drewN _ _ = W1
  have HX1 := Lib.hid (show IsText X s a W1 by rw [← hW1]; exact HX.out)
  have HK1 := Lib.hid (show IsTok w.heap.size (.int .i64 0) (.string ⟨#[]⟩) (.int .i64 0) (.bool false) (.int .i64 0) W1 by rw [← hW1]; exact HK.out)
  have HE1 := Lib.hid (show ErrW W1 by rw [← hW1]; exact HE.out)
  have HG1 := Lib.hid (show w.grownBy W1 (some X) by rw [← hW1]; exact grown_trans (World.grownBy_alloc w (.cells #[.int .i64 0, .string ⟨#[]⟩, .int .i64 0, .bool false, .int .i64 0] 71) _) (grown_below (below_drewN' (Below.refl _ _) _) _))
  have c0 := HX1.out.cell0
  have c1 := HX1.out.cell1
  clear hW1 x0 x1
  go_wp2_with (first
    | (go_at_call 118; (with_reducible refine (more_calls en_small tsmall_calls X s a _ ?_).mono ?_); (focus (exact HX1.out)); rintro e w' ⟨rfl, rfl⟩; rw [M0.out])
    | (go_at_call 118; (with_reducible refine (more_calls en_big tbig_calls X s a _ ?_).mono ?_); (focus (exact HX1.out)); rintro e w' ⟨rfl, rfl⟩; rw [M1.out])
    | (go_at_call 118; (with_reducible refine (more_calls en_fig tfig_calls X s a _ ?_).mono ?_); (focus (exact HX1.out)); rintro e w' ⟨rfl, rfl⟩; rw [M2.out]))
  go_region
  go_wp2_with (first
    | (go_at_call 125; (with_reducible refine (mark_calls X s a _ ?_ ha hs).mono ?_); (focus (exact HX1.out)); rintro e w2 ho; obtain ⟨k, t, n, q, er, rfl, hg2, hv⟩ := ho.cells; have hk2 := HK1.out.grown (row := some X) (grown_trans (grown_drew (grown_drew (grown_drew (grown_drew (World.grownBy.refl _ (some X)))))) hg2) (by have := HLT.out; simp; omega); have k0 := hk2.c0; have k1 := hk2.c1; have k2 := hk2.c2; have k3 := hk2.c3; have k4 := hk2.c4; have l0 := hk2.fr 0; have l1 := hk2.fr 1; have l2 := hk2.fr 2; have l3 := hk2.fr 3; have l4 := hk2.fr 4; have HK2 := Lib.hid hk2; have HG2 := Lib.hid hg2; have HV := Lib.hid hv; clear hk2 hg2 hv ho))
  have hset := HK2.out.set (.int .i64 k) (.string t) (.int .i64 n) (.bool q) (.int .i64 0)
  have r0 := hset.c0; have r1 := hset.c1; have r2 := hset.c2; have r3 := hset.c3; have r4 := hset.c4
  refine bodyPost_ret (v := .tuple #[.agg #[.int .i64 k, .string t, .int .i64 n, .bool q, .int .i64 0], .int .i64 er]) (by simp [results, Tryz.results93, go_sem, r0, r1, r2, r3, r4]) rfl ?_
  exact HV.out.back (fun b hb => hb.tokSet (by have := HLT.out; omega) _ _ _ _ _) (grown_tokSet (grown_trans HG1.out (grown_trans (grown_drew (grown_drew (grown_drew (grown_drew (World.grownBy.refl _ (some X)))))) HG2.out)) (Nat.le_refl _) _ _ _ _ _)

set_option maxRecDepth 100000 in
set_option maxHeartbeats 4000000 in
theorem one_dash (X : Nat) (s : ByteArray) (a : Nat) (w : World) (hT : IsText X s a w) (ha : a < s.size) (hs : s.size ≤ 65536) (hE : ErrW w) (h45 : (s[a] == 45) = true) (hk2 : a + 1 < s.size) (h4 : ofB figI s[a + 1] = false) (h1 : ofB sml s[a] = false) (h2 : ofB bgI s[a] = false) (h3 : ofB figI s[a] = false) (h39 : (((s[a]'ha).toNat : Int) == 39) = false) :
    Calls Tryz.prog 93 #[.pointer (some ⟨X, 0, none⟩)] w (OneIs X s (markL (s.data.toList.drop a)) w) := by
  have hx := hT.grown (World.grownBy_alloc w (.cells #[.int .i64 0, .string ⟨#[]⟩, .int .i64 0, .bool false, .int .i64 0] 71) none) (by simp)
  have x0 := hx.cell0
  have x1 := hx.cell1
  have HX := Lib.hid hx
  have C0 := Lib.hid x0
  have C1 := Lib.hid x1
  have HLT := Lib.hid hT.lt
  have HK := Lib.hid (IsTok.new (v0 := .int .i64 0) (v1 := .string ⟨#[]⟩) (v2 := .int .i64 0) (v3 := .bool false) (v4 := .int .i64 0) w)
  have HE := Lib.hid (hE.below ((Below.refl w.heap.size w).alloc (Nat.le_refl _) (.cells #[.int .i64 0, .string ⟨#[]⟩, .int .i64 0, .bool false, .int .i64 0] 71)))
  have HP := Lib.hid (show Lib.hasPrefix (s.extract a s.size).data.toList [45] = true by
    rw [show (s.extract a s.size).data.toList = s.data.toList.drop a by
      simp only [ByteArray.data_extract, Array.toList_extract, List.extract]
      rw [List.take_of_length_le (by simp)], drop_at ha, prefix45, h45])
  have HA := Lib.hid (show a ≤ s.size by omega)
  have HPC := Lib.hid (show ∀ w, Calls Tryz.prog 123 #[.string (s.extract a s.size), .string ⟨#[45]⟩] w fun e w' => e = .returned (.bool true) ∧ w' = w from fun w => by rw [← HP.out]; exact Tryz.strings_HasPrefix _ _ _)
  have ha2 : a ≤ s.size := HA.out
  have M0 := Lib.hid (show moreB sml s a = false by rw [moreB_at ha]; exact h1)
  have M1 := Lib.hid (show moreB bgI s a = false by rw [moreB_at ha]; exact h2)
  have M2 := Lib.hid (show moreB figI s a = false by rw [moreB_at ha]; exact h3)
  have hlt2 : decide ((a : Int) + 1 < (s.size : Int)) = true := decide_eq_true (by omega)
  have hlt3 : (a : Int) + 1 < (s.size : Int) := by omega
  have hwr : IntKind.i64.wrap ((a : Int) + 1) = (a : Int) + 1 := IntWalk.i64_in _ (by omega)
  have HF := Lib.hid (show figI ((s[a + 1]'hk2).toNat : Int) = false from h4)
  have HFC := Lib.hid (show ∀ w, Calls Tryz.prog 124 #[.int .u8 ((s[a + 1]'hk2).toNat : Int)] w fun e w' => e = .returned (.bool false) ∧ w' = w from fun w => (tfig_calls _ w).mono (by rintro e w' ⟨rfl, rfl⟩; exact ⟨by rw [HF.out], rfl⟩))
  have b39 := 0
  clear b39 hT hx hE h45 h1 h2 h3 h4
  go_enter Tryz.func93, Tryz.ntmps93
  go_wp2_with fail
  go_region_held3 (fun W => W.cell? ⟨X, 0, none⟩ = some (.string s) ∧ W.cell? ⟨X, 1, none⟩ = some (.int .i64 (a : Int)))
    ((go_split_ands; refine ⟨?_, ?_⟩; (focus (first | with_reducible assumption | (refine cell_below (w := w.alloc (.cells #[.int .i64 0, .string ⟨#[]⟩, .int .i64 0, .bool false, .int .i64 0] 71)) ?_ C0.out; (focus (repeat (first | with_reducible assumption | with_reducible exact Below.refl _ _ | with_reducible apply Below.drew)))))); (focus (first | with_reducible assumption | (refine cell_below (w := w.alloc (.cells #[.int .i64 0, .string ⟨#[]⟩, .int .i64 0, .bool false, .int .i64 0] 71)) ?_ C1.out; (focus (repeat (first | with_reducible assumption | with_reducible exact Below.refl _ _ | with_reducible apply Below.drew))))))))
    (first
      | (go_at_call 123; (with_reducible refine (HPC.out _).mono ?_); rintro e w' ⟨rfl, hw⟩; rw [hw]; clear hw)
      | (go_at_call 124; (with_reducible refine (HFC.out _).mono ?_); rintro e w' ⟨rfl, hw⟩; rw [hw]; clear hw))
  generalize hW1 : World.drew _ = W1
  have HX1 := Lib.hid (show IsText X s a W1 by rw [← hW1]; exact HX.out)
  have HK1 := Lib.hid (show IsTok w.heap.size (.int .i64 0) (.string ⟨#[]⟩) (.int .i64 0) (.bool false) (.int .i64 0) W1 by rw [← hW1]; exact HK.out)
  have HE1 := Lib.hid (show ErrW W1 by rw [← hW1]; exact HE.out)
  have HG1 := Lib.hid (show w.grownBy W1 (some X) by rw [← hW1]; exact grown_trans (World.grownBy_alloc w (.cells #[.int .i64 0, .string ⟨#[]⟩, .int .i64 0, .bool false, .int .i64 0] 71) _) (grown_below (Below.refl _ _).drew _))
  have c0 := HX1.out.cell0
  have c1 := HX1.out.cell1
  clear hW1 x0 x1
  go_wp2_with (first
    | (go_at_call 118; (with_reducible refine (more_calls en_small tsmall_calls X s a _ ?_).mono ?_); (focus (exact HX1.out)); rintro e w' ⟨rfl, rfl⟩; rw [M0.out])
    | (go_at_call 118; (with_reducible refine (more_calls en_big tbig_calls X s a _ ?_).mono ?_); (focus (exact HX1.out)); rintro e w' ⟨rfl, rfl⟩; rw [M1.out])
    | (go_at_call 118; (with_reducible refine (more_calls en_fig tfig_calls X s a _ ?_).mono ?_); (focus (exact HX1.out)); rintro e w' ⟨rfl, rfl⟩; rw [M2.out]))
  go_region
  go_wp2_with (first
    | (go_at_call 125; (with_reducible refine (mark_calls X s a _ ?_ ha hs).mono ?_); (focus (exact HX1.out)); rintro e w2 ho; obtain ⟨k, t, n, q, er, rfl, hg2, hv⟩ := ho.cells; have hk2 := HK1.out.grown (row := some X) (grown_trans (grown_drew (grown_drew (grown_drew (grown_drew (World.grownBy.refl _ (some X)))))) hg2) (by have := HLT.out; simp; omega); have k0 := hk2.c0; have k1 := hk2.c1; have k2 := hk2.c2; have k3 := hk2.c3; have k4 := hk2.c4; have l0 := hk2.fr 0; have l1 := hk2.fr 1; have l2 := hk2.fr 2; have l3 := hk2.fr 3; have l4 := hk2.fr 4; have HK2 := Lib.hid hk2; have HG2 := Lib.hid hg2; have HV := Lib.hid hv; clear hk2 hg2 hv ho))
  have hset := HK2.out.set (.int .i64 k) (.string t) (.int .i64 n) (.bool q) (.int .i64 0)
  have r0 := hset.c0; have r1 := hset.c1; have r2 := hset.c2; have r3 := hset.c3; have r4 := hset.c4
  refine bodyPost_ret (v := .tuple #[.agg #[.int .i64 k, .string t, .int .i64 n, .bool q, .int .i64 0], .int .i64 er]) (by simp [results, Tryz.results93, go_sem, r0, r1, r2, r3, r4]) rfl ?_
  exact HV.out.back (fun b hb => hb.tokSet (by have := HLT.out; omega) _ _ _ _ _) (grown_tokSet (grown_trans HG1.out (grown_trans (grown_drew (grown_drew (grown_drew (grown_drew (World.grownBy.refl _ (some X)))))) HG2.out)) (Nat.le_refl _) _ _ _ _ _)

set_option maxRecDepth 100000 in
set_option maxHeartbeats 4000000 in
theorem one_last (X : Nat) (s : ByteArray) (a : Nat) (w : World) (hT : IsText X s a w) (ha : a < s.size) (hs : s.size ≤ 65536) (hE : ErrW w) (h45 : (s[a] == 45) = true) (hk2 : ¬ a + 1 < s.size) (h1 : ofB sml s[a] = false) (h2 : ofB bgI s[a] = false) (h3 : ofB figI s[a] = false) (h39 : (((s[a]'ha).toNat : Int) == 39) = false) :
    Calls Tryz.prog 93 #[.pointer (some ⟨X, 0, none⟩)] w (OneIs X s (markL (s.data.toList.drop a)) w) := by
  have hx := hT.grown (World.grownBy_alloc w (.cells #[.int .i64 0, .string ⟨#[]⟩, .int .i64 0, .bool false, .int .i64 0] 71) none) (by simp)
  have x0 := hx.cell0
  have x1 := hx.cell1
  have HX := Lib.hid hx
  have C0 := Lib.hid x0
  have C1 := Lib.hid x1
  have HLT := Lib.hid hT.lt
  have HK := Lib.hid (IsTok.new (v0 := .int .i64 0) (v1 := .string ⟨#[]⟩) (v2 := .int .i64 0) (v3 := .bool false) (v4 := .int .i64 0) w)
  have HE := Lib.hid (hE.below ((Below.refl w.heap.size w).alloc (Nat.le_refl _) (.cells #[.int .i64 0, .string ⟨#[]⟩, .int .i64 0, .bool false, .int .i64 0] 71)))
  have HP := Lib.hid (show Lib.hasPrefix (s.extract a s.size).data.toList [45] = true by
    rw [show (s.extract a s.size).data.toList = s.data.toList.drop a by
      simp only [ByteArray.data_extract, Array.toList_extract, List.extract]
      rw [List.take_of_length_le (by simp)], drop_at ha, prefix45, h45])
  have HA := Lib.hid (show a ≤ s.size by omega)
  have HPC := Lib.hid (show ∀ w, Calls Tryz.prog 123 #[.string (s.extract a s.size), .string ⟨#[45]⟩] w fun e w' => e = .returned (.bool true) ∧ w' = w from fun w => by rw [← HP.out]; exact Tryz.strings_HasPrefix _ _ _)
  have ha2 : a ≤ s.size := HA.out
  have M0 := Lib.hid (show moreB sml s a = false by rw [moreB_at ha]; exact h1)
  have M1 := Lib.hid (show moreB bgI s a = false by rw [moreB_at ha]; exact h2)
  have M2 := Lib.hid (show moreB figI s a = false by rw [moreB_at ha]; exact h3)
  have hlt2 : decide ((a : Int) + 1 < (s.size : Int)) = false := decide_eq_false (by omega)
  have b39 := 0
  clear b39 hT hx hE h45 h1 h2 h3
  go_enter Tryz.func93, Tryz.ntmps93
  go_wp2_with fail
  go_quiet (first | (go_at_call 123; refine Calls.quiet_of_same (HPC.out _)))
  generalize hW1 : World.drewN _ _ = W1
  have HX1 := Lib.hid (show IsText X s a W1 by rw [← hW1]; exact HX.out)
  have HK1 := Lib.hid (show IsTok w.heap.size (.int .i64 0) (.string ⟨#[]⟩) (.int .i64 0) (.bool false) (.int .i64 0) W1 by rw [← hW1]; exact HK.out)
  have HE1 := Lib.hid (show ErrW W1 by rw [← hW1]; exact HE.out)
  have HG1 := Lib.hid (show w.grownBy W1 (some X) by rw [← hW1]; exact grown_trans (World.grownBy_alloc w (.cells #[.int .i64 0, .string ⟨#[]⟩, .int .i64 0, .bool false, .int .i64 0] 71) _) (grown_below (below_drewN' (Below.refl _ _) _) _))
  have c0 := HX1.out.cell0
  have c1 := HX1.out.cell1
  clear hW1 x0 x1
  go_wp2_with (first
    | (go_at_call 118; (with_reducible refine (more_calls en_small tsmall_calls X s a _ ?_).mono ?_); (focus (exact HX1.out)); rintro e w' ⟨rfl, rfl⟩; rw [M0.out])
    | (go_at_call 118; (with_reducible refine (more_calls en_big tbig_calls X s a _ ?_).mono ?_); (focus (exact HX1.out)); rintro e w' ⟨rfl, rfl⟩; rw [M1.out])
    | (go_at_call 118; (with_reducible refine (more_calls en_fig tfig_calls X s a _ ?_).mono ?_); (focus (exact HX1.out)); rintro e w' ⟨rfl, rfl⟩; rw [M2.out]))
  go_region
  go_wp2_with (first
    | (go_at_call 125; (with_reducible refine (mark_calls X s a _ ?_ ha hs).mono ?_); (focus (exact HX1.out)); rintro e w2 ho; obtain ⟨k, t, n, q, er, rfl, hg2, hv⟩ := ho.cells; have hk2 := HK1.out.grown (row := some X) (grown_trans (grown_drew (grown_drew (grown_drew (grown_drew (World.grownBy.refl _ (some X)))))) hg2) (by have := HLT.out; simp; omega); have k0 := hk2.c0; have k1 := hk2.c1; have k2 := hk2.c2; have k3 := hk2.c3; have k4 := hk2.c4; have l0 := hk2.fr 0; have l1 := hk2.fr 1; have l2 := hk2.fr 2; have l3 := hk2.fr 3; have l4 := hk2.fr 4; have HK2 := Lib.hid hk2; have HG2 := Lib.hid hg2; have HV := Lib.hid hv; clear hk2 hg2 hv ho))
  have hset := HK2.out.set (.int .i64 k) (.string t) (.int .i64 n) (.bool q) (.int .i64 0)
  have r0 := hset.c0; have r1 := hset.c1; have r2 := hset.c2; have r3 := hset.c3; have r4 := hset.c4
  refine bodyPost_ret (v := .tuple #[.agg #[.int .i64 k, .string t, .int .i64 n, .bool q, .int .i64 0], .int .i64 er]) (by simp [results, Tryz.results93, go_sem, r0, r1, r2, r3, r4]) rfl ?_
  exact HV.out.back (fun b hb => hb.tokSet (by have := HLT.out; omega) _ _ _ _ _) (grown_tokSet (grown_trans HG1.out (grown_trans (grown_drew (grown_drew (grown_drew (grown_drew (World.grownBy.refl _ (some X)))))) HG2.out)) (Nat.le_refl _) _ _ _ _ _)

theorem one_calls (X : Nat) (s : ByteArray) (a : Nat) (w : World) (hT : IsText X s a w) (ha : a < s.size) (hs : s.size ≤ 65536) (hE : ErrW w) :
    Calls Tryz.prog 93 #[.pointer (some ⟨X, 0, none⟩)] w (OneIs X s (oneL s[a] (s.data.toList.drop (a + 1))) w) := by
  unfold oneL
  rw [← drop_at ha]
  have hdash : (s[a] == 45) = true → ofB sml s[a] = false ∧ ofB bgI s[a] = false ∧ ofB figI s[a] = false ∧ (((s[a]'ha).toNat : Int) == 39) = false ∧ (s[a] == 39) = false := by
    intro h
    have h2 : s[a] = 45 := by simpa using h
    rw [h2]
    decide
  cases h45 : (s[a] == 45) with
  | true =>
    obtain ⟨h1, h2, h3, h39, h39'⟩ := hdash h45
    rw [h1, h2, h3, h39']
    by_cases hk2 : a + 1 < s.size
    · have hd : s.data.toList.drop (a + 1) = s[a + 1] :: s.data.toList.drop (a + 1 + 1) := drop_at hk2
      cases h4 : ofB figI s[a + 1] with
      | true =>
        have e : (true && !(s.data.toList.drop (a + 1)).isEmpty && ofB figI ((s.data.toList.drop (a + 1)).headD 0)) = true := by rw [hd]; simpa using h4
        rw [e]
        exact one_neg X s a w hT ha hs hE h45 hk2 h4 h1 h2 h3
      | false =>
        have e : (true && !(s.data.toList.drop (a + 1)).isEmpty && ofB figI ((s.data.toList.drop (a + 1)).headD 0)) = false := by rw [hd]; simpa using h4
        rw [e]
        exact one_dash X s a w hT ha hs hE h45 hk2 h4 h1 h2 h3 h39
    · have hd : s.data.toList.drop (a + 1) = [] := drop_end (by omega)
      have e : (true && !(s.data.toList.drop (a + 1)).isEmpty && ofB figI ((s.data.toList.drop (a + 1)).headD 0)) = false := by rw [hd]; rfl
      rw [e]
      exact one_last X s a w hT ha hs hE h45 hk2 h1 h2 h3 h39
  | false =>
    rw [Bool.false_and, Bool.false_and, Bool.or_false]
    cases h1 : ofB sml s[a] with
    | true => exact one_small X s a w hT ha hs hE h45 h1
    | false =>
      cases h2 : ofB bgI s[a] with
      | true => exact one_big X s a w hT ha hs hE h45 h1 h2
      | false =>
        cases h3 : ofB figI s[a] with
        | true => exact one_fig X s a w hT ha hs hE h45 h1 h2 h3
        | false =>
          cases h39 : (((s[a]'ha).toNat : Int) == 39) with
          | true =>
            have h39' : (s[a] == 39) = true := by rw [byteN (d := 39) h39 (by decide)]; rfl
            rw [h39']
            exact one_quot X s a w hT ha hs hE h45 h1 h2 h3 h39
          | false =>
            have h39' : (s[a] == 39) = false := byteNot (d := 39) h39 (by decide)
            rw [h39']
            exact one_mark X s a w hT ha hs hE h45 h1 h2 h3 h39
end Go.Proofs.YtminbdcabacfbaaGreatDoor.V

namespace Go.Proofs.YtminbdcabacfbaaGreatDoor.V
set_option linter.unusedVariables false
set_option linter.unusedSimpArgs false
open Go.RowKit

/-- Tokens as they lie in cells. -/
def tokC (p : TP') : List Value := [.int .i64 (p.1.k : Int), .string ⟨p.1.s.toArray⟩, .int .i64 p.1.n, .bool p.1.q, .int .i64 (p.2 : Int)]
def tokCells (l : List TP') : List Value := l.flatMap tokC
theorem tokCells_length (l : List TP') : (tokCells l).length = l.length * 5 := by
  induction l with
  | nil => rfl
  | cons x l ih =>
    unfold tokCells at *
    rw [List.flatMap_cons, List.length_append, ih]
    simp [tokC]
    omega
theorem tokCells_snoc (l : List TP') (p : TP') : tokCells (l ++ [p]) = tokCells l ++ tokC p := by simp [tokCells]
theorem tok_info : (Tryz.prog.info? 71).map (fun i => (i.zero, i.size, i.bytes)) = some (some (.agg #[.int .i64 0, .string ⟨#[]⟩, .int .i64 0, .bool false, .int .i64 0]), 5, 48) := by kernel_rfl
theorem oneL_bad {c : UInt8} {t : List UInt8} {e : Nat} (h : oneL c t = .bad e) : e = 2 ∨ e = 3 ∨ e = 4 := by
  unfold oneL at h
  repeat' split at h
  all_goals first
    | (unfold namedL at h; split at h <;> simp at h <;> omega)
    | (unfold numL at h; split at h <;> simp at h <;> omega)
    | (unfold markL at h; repeat' split at h; all_goals (simp at h; try omega))
    | (cases hq : quotL t <;> rw [hq] at h <;> simp [qres] at h <;> omega)

theorem skip_idem (l : List UInt8) : ∀ m, skipR false (skipR m l) = skipR m l := by
  induction l with
  | nil => intro m; simp [skipR]
  | cons c t ih =>
    intro m
    rw [skipR]
    split
    · rename_i h
      unfold skipR
      rw [if_pos]
      simp_all
    · exact ih _
theorem app_nil (s : Scan) : Scan.app [] s = s := by cases s <;> rfl
theorem grown_strip {w w' : World} {o : Obj} (h : (w.alloc o).grownBy w' (some w.heap.size)) : w.grownBy w' none :=
  ⟨h.os, h.tape, h.output, Nat.le_trans (by simp) h.size, fun k hk _ => (h.block k (by simp; omega) (by simp; omega)).trans (Below.heap_alloc _ _ _ hk)⟩
theorem below_of_grown {w w' : World} (h : w.grownBy w' none) : Below w.heap.size w w' := ⟨h.os, h.tape, h.output, h.size, fun k hk => h.block k hk (by simp)⟩
theorem o_base {W : World} {B B' e z n : Nat} {v : Value} {xs : List Value} (h : W.ownsRow B e z v n xs) (hB : B' ≤ B) : W.ownsRow B' e z v n xs := by
  refine ⟨h.1, ?_⟩
  rcases h.2 with hn | ⟨g, cap, cur, hv, hb, rest⟩
  · exact .inl hn
  · exact .inr ⟨g, cap, cur, hv, by omega, rest⟩

/-- What Scan hands back. -/
def ScanIs (s : ByteArray) (w : World) (e : Ending) (w' : World) : Prop :=
  Below w.heap.size w w' ∧ match scanL s.data.toList with
    | .bad a n => e = .returned (.tuple #[.slice none 0 0, .int .i64 (a : Int), .int .i64 (n : Int)])
    | .ok l => ∃ v, e = .returned (.tuple #[v, .int .i64 0, .int .i64 0]) ∧ w'.ownsRow w.heap.size 71 5 v l.length (tokCells l) ∧ (l = [] → v = .slice none 0 0) ∧ l.length ≤ 65536

/-- What Scan keeps, round by round. -/
structure ScanW (s : ByteArray) (k : Nat) (w W : World) (v : Value) (done : List TP') : Prop where
  hx : IsText w.heap.size s k W
  hk : k ≤ s.size
  hs : skipR false (s.data.toList.drop k) = s.data.toList.drop k
  ho : W.ownsRow (w.heap.size + 1) 71 5 v done.length (tokCells done)
  hz : done = [] → v = .slice none 0 0
  hn : done.length ≤ k
  hg : w.grownBy W none
  he : ErrW W
  hq : scanT s.size s.data.toList = (scanT s.size (s.data.toList.drop k)).app done

set_option maxRecDepth 100000 in
set_option maxHeartbeats 8000000 in
theorem scan_calls (s : ByteArray) (w : World) (hs : s.size ≤ 9223372036854775807) (hE : ErrW w) :
    Calls Tryz.prog 58 #[.string s] w (ScanIs s w) := by
  have hls : s.data.toList.length = s.size := by simp
  by_cases hbig : 65536 < s.size
  · have hd : decide (65536 < (s.size : Int)) = true := decide_eq_true (by omega)
    have HQ := Lib.hid (show scanL s.data.toList = .bad 0 4 from if_pos (by omega))
    clear hls hbig
    go_enter Tryz.func58, Tryz.ntmps58
    go_wp2_with fail
    refine bodyPost_ret (v := .tuple #[.slice none 0 0, .int .i64 0, .int .i64 4]) (by simp [results, Tryz.results58, go_sem]) rfl ⟨Below.refl _ _, ?_⟩
    rw [HQ.out]
    rfl
  · have hd : decide (65536 < (s.size : Int)) = false := decide_eq_false (by omega)
    have hs2 : s.size ≤ 65536 := by omega
    have HSL := Lib.hid (show scanL s.data.toList = scanT s.size s.data.toList by
      unfold scanL scanT
      rw [if_neg (by omega), hls])
    have HX := Lib.hid (show IsText w.heap.size s 0 (w.alloc (.cells #[.string s, .int .i64 0] 137)) from heap_alloc_new w _)
    have HE := Lib.hid (hE.below ((Below.refl w.heap.size w).alloc (Nat.le_refl _) (.cells #[.string s, .int .i64 0] 137)))
    have HE0 := Lib.hid hE
    clear hls hE hbig
    go_enter Tryz.func58, Tryz.ntmps58
    go_wp2_with (go_at_call 92; ((with_reducible refine (skip_calls _ s 0 _ HX.out (Nat.zero_le _) hs2).mono ?_); rintro e w1 ⟨rfl, b, _, hb, hsk, ht1, hg1⟩; have HSK := Lib.hid hsk; have HB := Lib.hid hb; have HT1 := Lib.hid ht1; have HG1 := Lib.hid hg1; clear hsk hb ht1 hg1))
    have hb := HB.out
    go_loopw [5] (fun v wr => ∃ k done, ScanW s k w wr v done) (fun _ wr => s.size - textAt w.heap.size wr)
    case atStart =>
      refine ⟨b, [], ⟨HT1.out, HB.out, ?_, World.ownsRow_nil _ _ _ _, fun _ => rfl, Nat.zero_le _, ?_, HE.out.grown HX.out HG1.out, ?_⟩⟩
      · rw [HSK.out, skip_idem]
      · exact grown_strip HG1.out
      · rw [HSK.out, List.drop_zero, scanT_skip, app_nil]
    case round =>
      obtain ⟨k, done, hW⟩ := hrel
      obtain ⟨A, c, rfl⟩ := o_slice hW.ho
      have HW := Lib.hid hW
      have c0 := hW.hx.cell0
      have c1 := hW.hx.cell1
      clear hW hb
      by_cases hkl : k < s.size
      · have hdk : decide ((k : Int) < (s.size : Int)) = true := decide_eq_true (by omega)
        have hstay := HW.out.hs
        rw [drop_at hkl] at hstay
        cases ho : oneL s[k] (s.data.toList.drop (k + 1)) with
        | bad m =>
          have HO := Lib.hid ho
          have hm : ((m : Int) == 0) = false := by
            have := oneL_bad ho
            simp
            omega
          have HF := Lib.hid (show scanL s.data.toList = .bad k m by
            rw [HSL.out, HW.out.hq, scanT_bad _ _ s[k] (s.data.toList.drop (k + 1)) m (by rw [drop_at hkl]; exact hstay) ho]
            simp [Scan.app]
            omega)
          clear hstay ho
          go_wp2_with (go_at_call 93; ((with_reducible refine (one_calls _ s k _ HW.out.hx hkl hs2 HW.out.he).mono ?_); rintro e w2 ho2; rw [HO.out] at ho2; obtain ⟨kk, tt, nn, qq, er, rfl, hg2, hv⟩ := ho2.cells; obtain ⟨rfl, rfl, rfl, rfl, rfl, _⟩ := hv; have HG2 := Lib.hid hg2; clear hg2 ho2))
          refine bodyPost_ret (v := .tuple #[.slice none 0 0, .int .i64 (k : Int), .int .i64 (m : Int)]) (by simp [results, Tryz.results58, go_sem]) rfl ⟨below_of_grown (grown_trans (o_grown HW.out.hg HG2.out (fun j hj => by cases hj; exact Nat.le_refl _)) (World.grownBy_alloc _ _ _)), ?_⟩
          rw [HF.out]
        | tok u r =>
          have HO := Lib.hid ho
          have HF := Lib.hid (show scanT s.size s.data.toList = (scanT s.size r).app (done ++ [(u, k)]) by
            rw [HW.out.hq, scanT_tok _ _ s[k] (s.data.toList.drop (k + 1)) u r (by rw [drop_at hkl]; exact hstay) ho, app_cons]
            have e : s.size - (s[k] :: s.data.toList.drop (k + 1)).length = k := by simp; omega
            rw [e])
          have HLEN := Lib.hid (show r.length < s.size - k by
            have := oneL_lt _ _ _ _ ho
            simp at this
            omega)
          clear hstay ho
          go_wp2_with (first
            | (go_at_call 93; ((with_reducible refine (one_calls _ s k _ HW.out.hx hkl hs2 HW.out.he).mono ?_); rintro e w2 ho2; rw [HO.out] at ho2; obtain ⟨kk, tt, nn, qq, er, rfl, hg2, hv⟩ := ho2.cells; obtain ⟨rfl, rfl, rfl, rfl, rfl, b2, hb2, hr2, ht2⟩ := hv; have HG2 := Lib.hid hg2; have HB2 := Lib.hid hb2; have HR2 := Lib.hid hr2; have HT2 := Lib.hid ht2; clear hg2 ho2 hb2 hr2 ht2))
            | (at_builtin; refine RowKit.Hid.out ?_))
          refine Lib.hid ?_
          have hXne : some w.heap.size ≠ Value.ownBlock (.slice A done.length c) := fun e => by have := o_from HW.out.ho _ e.symm; omega
          have HGA := Lib.hid (grown_trans HG2.out (World.grownBy_alloc w2 (.cells #[.int .i64 (u.k : Int), .string ⟨u.s.toArray⟩, .int .i64 u.n, .bool u.q, .int .i64 (k : Int)] 71) (some w.heap.size)))
          refine o_app (W := w2.alloc (.cells #[.int .i64 (u.k : Int), .string ⟨u.s.toArray⟩, .int .i64 u.n, .bool u.q, .int .i64 (k : Int)] 71)) rfl (.tmp 42) (.tmp 44) 64 71 rfl (.agg #[.int .i64 0, .string ⟨#[]⟩, .int .i64 0, .bool false, .int .i64 0]) 5 48 Tryz.underlying64 tok_info rfl (by decide) (by decide) #[.int .i64 (u.k : Int), .string ⟨u.s.toArray⟩, .int .i64 u.n, .bool u.q, .int .i64 (k : Int)] rfl (by intro v hv; simp at hv; rcases hv with rfl | rfl | rfl | rfl | rfl <;> rfl) (.slice A done.length c) done.length (tokCells done) (by rfl) (o_keep HW.out.ho HGA.out (by omega)) (by simp; rfl) (by have := HW.out.hn; have := HW.out.hk; omega) (by have := HGA.out.size; have := HW.out.hx.lt; omega) ?_
          intro A2 c2 W3 ho3 hg3
          have HG3 := Lib.hid hg3
          have HO3 := Lib.hid (show W3.ownsRow (w.heap.size + 1) 71 5 (.slice A2 (done.length + 1) c2) (done.length + 1) (tokCells (done ++ [(u, k)])) by rw [tokCells_snoc]; exact ho3)
          have HT3 := Lib.hid ((HT2.out.grown (World.grownBy_alloc w2 (.cells #[.int .i64 (u.k : Int), .string ⟨u.s.toArray⟩, .int .i64 u.n, .bool u.q, .int .i64 (k : Int)] 71) none) (by simp)).grown hg3 hXne)
          have HGW := Lib.hid (o_grown (o_grown HW.out.hg HGA.out (fun j hj => by cases hj; exact Nat.le_refl _)) hg3 (fun j hj => by have := o_from HW.out.ho _ hj; omega))
          have HBK := Lib.hid (show k < b2 by
            have h1 := HLEN.out
            have h2 := congrArg List.length HR2.out
            simp at h2
            omega)
          clear ho3 hg3
          go_wp2_with (go_at_call 92; ((with_reducible refine (skip_calls _ s b2 _ HT3.out HB2.out hs2).mono ?_); rintro e w4 ⟨rfl, b4, hb24, hb4, hsk, ht4, hg4⟩; have HSK := Lib.hid hsk; have HB4 := Lib.hid hb4; have HB24 := Lib.hid hb24; have HT4 := Lib.hid ht4; have HG4 := Lib.hid hg4; clear hsk hb4 hb24 ht4 hg4))
          go_roundw
          case rel =>
            refine ⟨b4, done ++ [(u, k)], ⟨HT4.out, HB4.out, by rw [HSK.out, skip_idem], ?_, fun e => by simp at e, ?_, ?_, HE0.out.below (below_of_grown (o_grown HGW.out HG4.out (fun j hj => by cases hj; exact Nat.le_refl _))), ?_⟩⟩
            · rw [List.length_append, List.length_singleton]
              exact o_keep HO3.out HG4.out (by omega)
            · have h1 := HBK.out
              have h2 := HB24.out
              have h3 := HW.out.hn
              simp
              omega
            · exact o_grown HGW.out HG4.out (fun j hj => by cases hj; exact Nat.le_refl _)
            · rw [HF.out, HSK.out, scanT_skip, HR2.out]
          case measure =>
            have h1 := HBK.out
            have h2 := HB24.out
            rw [HT4.out.textAt, HW.out.hx.textAt]
            omega
      · have hdk : decide ((k : Int) < (s.size : Int)) = false := decide_eq_false (by omega)
        have HF := Lib.hid (show scanL s.data.toList = .ok done by
          rw [HSL.out, HW.out.hq, drop_end (by omega), scanT_nil _ _ rfl]
          simp [Scan.app])
        go_wp2_with fail
        refine bodyPost_ret (v := .tuple #[.slice A done.length c, .int .i64 0, .int .i64 0]) (by simp [results, Tryz.results58, go_sem]) rfl ⟨below_of_grown HW.out.hg, ?_⟩
        rw [HF.out]
        exact ⟨_, rfl, o_base HW.out.ho (Nat.le_succ _), HW.out.hz, by have := HW.out.hn; have := HW.out.hk; omega⟩
end Go.Proofs.YtminbdcabacfbaaGreatDoor.V

namespace Go.Proofs.YtminbdcabacfbaaGreatDoor.V
set_option linter.unusedVariables false
set_option linter.unusedSimpArgs false
open Go.RowKit

/-- A token as it may lie anywhere: its parts are of no form. -/
structure GT where
  k : Int
  s : ByteArray
  n : Int
  q : Bool
  p : Int
structure TokHere (w : World) (a : Addr) (t : GT) : Prop where
  c0 : w.cell? a = some (.int .i64 t.k)
  c1 : w.cell? ⟨a.block, a.off + 1, none⟩ = some (.string t.s)
  c2 : w.cell? ⟨a.block, a.off + 2, none⟩ = some (.int .i64 t.n)
  c3 : w.cell? ⟨a.block, a.off + 3, none⟩ = some (.bool t.q)
  c4 : w.cell? ⟨a.block, a.off + 4, none⟩ = some (.int .i64 t.p)
theorem TokHere.below {w w' : World} {a : Addr} {t : GT} (h : TokHere w a t) (hb : Below w.heap.size w w') : TokHere w' a t :=
  ⟨cell_below hb h.c0, cell_below hb h.c1, cell_below hb h.c2, cell_below hb h.c3, cell_below hb h.c4⟩
def ToksAt (w : World) (A : Option Addr) (L : List GT) : Prop := ∀ (j : Nat) (t : GT), L[j]? = some t → ∃ a, A = some a ∧ TokHere w (a.add (j * 5)) t
theorem ToksAt.below {w w' : World} {A : Option Addr} {L : List GT} (h : ToksAt w A L) (hb : Below w.heap.size w w') : ToksAt w' A L := fun j t hj => by
  obtain ⟨a, h1, h2⟩ := h j t hj
  exact ⟨a, h1, h2.below hb⟩
def gtOf (p : TP') : GT := ⟨(p.1.k : Int), bs p.1.s, p.1.n, p.1.q, (p.2 : Int)⟩
theorem addr_add (g j : Nat) : Addr.add ⟨g, 0, none⟩ j = ⟨g, j, none⟩ := by
  unfold Addr.add
  split <;> simp_all
/-- Tokens that a scan has laid. -/
theorem toks_row {W : World} {B : Nat} {A : Option Addr} {c n : Nat} {L : List TP'} (h : W.ownsRow B 71 5 (.slice A n c) n (tokCells L)) (hn : n = L.length) : ToksAt W A (L.map gtOf) := by
  intro j t hj
  rw [List.getElem?_map, Option.map_eq_some_iff] at hj
  obtain ⟨p, hp, rfl⟩ := hj
  obtain ⟨g, rfl, hc⟩ := flat_row tokC (fun x => rfl) h hn hp
  refine ⟨_, rfl, ?_⟩
  rw [addr_add]
  exact ⟨hc 0 _ (by omega) rfl, hc 1 _ (by omega) rfl, hc 2 _ (by omega) rfl, hc 3 _ (by omega) rfl, hc 4 _ (by omega) rfl⟩

theorem bs_append (a b : List UInt8) : bs a ++ bs b = bs (a ++ b) := by
  apply ByteArray.ext
  simp [bs, ByteArray.data_append]
theorem bs_size (l : List UInt8) : (bs l).size = l.length := List.size_toArray
end Go.Proofs.YtminbdcabacfbaaGreatDoor.V

namespace Go.Proofs.YtminbdcabacfbaaGreatDoor.V
set_option linter.unusedVariables false
set_option linter.unusedSimpArgs false

structure TermL where
  v : Bool
  x : List UInt8
  s : Bool
  t : List UInt8
  n : Int
structure AtomL where
  p : List UInt8
  a : List TermL
structure LitL where
  k : Nat
  a : AtomL
  o : List UInt8
  l : TermL
  r : TermL
structure RuleL where
  h : AtomL
  b : List LitL
structure DeclL where
  p : List UInt8
  n : Int
def term0 : TermL := ⟨false, [], false, [], 0⟩
def atom0 : AtomL := ⟨[], []⟩

abbrev TP := Tok × Nat
def eofT (N : Nat) : TP := (⟨0, [], 0, false⟩, N)
/-- A token, so many behind the next one. -/
def pk (N : Nat) (r : List TP) (i : Nat) : TP := r[i]?.getD (eofT N)
def isM (N : Nat) (r : List TP) (i : Nat) (m : List UInt8) : Bool := (pk N r i).1.k == 4 && (pk N r i).1.s == m
def opL (m : List UInt8) : Bool := m == [61] || m == [33, 61] || m == [60] || m == [60, 61] || m == [62] || m == [62, 61]
def isO (N : Nat) (r : List TP) (i : Nat) : Bool := (pk N r i).1.k == 4 && opL (pk N r i).1.s
def notL : List UInt8 := [110, 111, 116]

inductive Par (α : Type) where
  | bad (at_ : Nat) (e : Nat)
  | ok (x : α) (r : List TP)

def nameP (N : Nat) (r : List TP) : Par (List UInt8) :=
  if (pk N r 0).1.k == 1 && !(pk N r 0).1.q && plainL (pk N r 0).1.s then .ok (pk N r 0).1.s r.tail else .bad (pk N r 0).2 2

def termP (N : Nat) (r : List TP) : Par TermL :=
  if (pk N r 0).1.k == 2 then .ok ⟨true, (pk N r 0).1.s, false, [], 0⟩ r.tail
  else if (pk N r 0).1.k == 3 then .ok ⟨false, [], false, [], (pk N r 0).1.n⟩ r.tail
  else if (pk N r 0).1.k == 1 && ((pk N r 0).1.q || !((pk N r 0).1.s == notL)) then .ok ⟨false, [], true, (pk N r 0).1.s, 0⟩ r.tail
  else .bad (pk N r 0).2 2

def someP {α : Type} (one : List TP → Par α) (N : Nat) : Nat → List TP → Par (List α)
  | 0, r => .bad (pk N r 0).2 4
  | m + 1, r => match one r with
    | .bad a e => .bad a e
    | .ok x r1 => if isM N r1 0 [44] then (match someP one N m r1.tail with
        | .bad a e => .bad a e
        | .ok xs r2 => .ok (x :: xs) r2)
      else .ok [x] r1

def markP {α : Type} (N : Nat) (m : List UInt8) (x : α) (r : List TP) : Par α := if isM N r 0 m then .ok x r.tail else .bad (pk N r 0).2 2

def atomP (N : Nat) (r : List TP) : Par AtomL := match nameP N r with
  | .bad a e => .bad a e
  | .ok p r1 => if isM N r1 0 [40] then (match someP (termP N) N 6 r1.tail with
      | .bad a e => .bad a e
      | .ok l r2 => markP N [41] ⟨p, l⟩ r2)
    else .ok ⟨p, []⟩ r1

def litP (N : Nat) (r : List TP) : Par LitL :=
  if (pk N r 0).1.k == 1 && !(pk N r 0).1.q && (pk N r 0).1.s == notL then (match atomP N r.tail with
    | .bad a e => .bad a e
    | .ok a r1 => .ok ⟨2, a, [], term0, term0⟩ r1)
  else if (pk N r 0).1.k == 1 && !(pk N r 0).1.q && !isO N r 1 then (match atomP N r with
    | .bad a e => .bad a e
    | .ok a r1 => .ok ⟨1, a, [], term0, term0⟩ r1)
  else match termP N r with
    | .bad a e => .bad a e
    | .ok l r1 => if isO N r1 0 then (match termP N r1.tail with
        | .bad a e => .bad a e
        | .ok u r2 => .ok ⟨3, atom0, (pk N r1 0).1.s, l, u⟩ r2)
      else .bad (pk N r1 0).2 2

def arityP (N : Nat) (r : List TP) : Par Int :=
  if (pk N r 0).1.k == 3 then (if decide ((pk N r 0).1.n < 0) || decide (6 < (pk N r 0).1.n) then .bad (pk N r 0).2 4 else .ok (pk N r 0).1.n r.tail)
  else .bad (pk N r 0).2 2

def declP (N : Nat) (r : List TP) : Par DeclL := match nameP N r with
  | .bad a e => .bad a e
  | .ok p r1 => match arityP N r1.tail with
    | .bad a e => .bad a e
    | .ok n r2 => markP N [46] ⟨p, n⟩ r2

def ruleP (N : Nat) (r : List TP) : Par RuleL := match atomP N r with
  | .bad a e => .bad a e
  | .ok h r1 => if isM N r1 0 [58, 45] then (match someP (litP N) N 8 r1.tail with
      | .bad a e => .bad a e
      | .ok b r2 => markP N [46] ⟨h, b⟩ r2)
    else markP N [46] ⟨h, []⟩ r1

/-- The clauses of what is left. -/
def progF (N : Nat) : Nat → List DeclL → List RuleL → List TP → Par (List DeclL × List RuleL)
  | 0, ds, rs, _ => .ok (ds, rs) []
  | f + 1, ds, rs, [] => .ok (ds, rs) []
  | f + 1, ds, rs, x :: r =>
    if isM N (x :: r) 1 [47] then
      if ds.length == 400 then .bad x.2 4
      else match declP N (x :: r) with
        | .bad a e => .bad a e
        | .ok d r1 => progF N f (ds ++ [d]) rs r1
    else
      if rs.length == 400 then .bad x.2 4
      else match ruleP N (x :: r) with
        | .bad a e => .bad a e
        | .ok c r1 => progF N f ds (rs ++ [c]) r1

inductive Got1 (α : Type) where
  | bad (at_ : Nat) (e : Nat)
  | ok (x : α)

/-- A text's program; a text's atom. -/
def parseL (s : List UInt8) : Got1 (List DeclL × List RuleL) := match scanL s with
  | .bad a e => .bad a e
  | .ok l => match progF s.length (l.length + 1) [] [] l with
    | .bad a e => .bad a e
    | .ok g _ => .ok g
def atomL (s : List UInt8) : Got1 AtomL := match scanL s with
  | .bad a e => .bad a e
  | .ok l => match atomP s.length l with
    | .bad a e => .bad a e
    | .ok x [] => .ok x
    | .ok x (t :: _) => .bad t.2 2

theorem pk_nil (N i : Nat) : pk N [] i = eofT N := rfl
theorem tail_lt {N : Nat} {r : List TP} (h : (pk N r 0).1.k ≠ 0) : r.tail.length < r.length := by
  cases r with
  | nil => exact absurd rfl h
  | cons x t => simp
theorem nameP_lt {N : Nat} {r r1 : List TP} {p : List UInt8} (h : nameP N r = .ok p r1) : r1.length < r.length := by
  unfold nameP at h
  split at h
  · rename_i hc
    simp only [Par.ok.injEq] at h
    rw [← h.2]
    exact tail_lt (N := N) (by simp_all)
  · simp at h
theorem termP_lt {N : Nat} {r r1 : List TP} {p : TermL} (h : termP N r = .ok p r1) : r1.length < r.length := by
  unfold termP at h
  repeat' split at h
  all_goals first
    | (simp at h; done)
    | (simp only [Par.ok.injEq] at h
       rw [← h.2]
       exact tail_lt (N := N) (by simp_all))
theorem markP_le {α : Type} {N : Nat} {m : List UInt8} {x y : α} {r r1 : List TP} (h : markP N m x r = .ok y r1) : r1.length ≤ r.length := by
  unfold markP at h
  split at h
  · simp only [Par.ok.injEq] at h
    rw [← h.2]
    simp
  · simp at h
theorem someP_le {α : Type} {one : List TP → Par α} {N : Nat} (ho : ∀ r x r1, one r = .ok x r1 → r1.length < r.length) :
    ∀ (m : Nat) (r : List TP) (xs : List α) (r1 : List TP), someP one N m r = .ok xs r1 → r1.length < r.length := by
  intro m
  induction m with
  | zero => intro r xs r1 h; simp [someP] at h
  | succ m ih =>
    intro r xs r1 h
    unfold someP at h
    split at h
    · simp at h
    · rename_i x r2 h2
      have h2' := ho _ _ _ h2
      split at h
      · split at h
        · simp at h
        · rename_i ys r3 h3
          have := ih _ _ _ h3
          simp only [Par.ok.injEq] at h
          rw [← h.2]
          simp at this
          omega
      · simp only [Par.ok.injEq] at h
        rw [← h.2]
        exact h2'
theorem atomP_lt {N : Nat} {r r1 : List TP} {p : AtomL} (h : atomP N r = .ok p r1) : r1.length < r.length := by
  unfold atomP at h
  split at h
  · simp at h
  · rename_i n r2 h2
    have h2' := nameP_lt h2
    split at h
    · split at h
      · simp at h
      · rename_i l r3 h3
        have h3' := someP_le (fun _ _ _ => termP_lt) _ _ _ _ h3
        have := markP_le h
        simp at h3'
        omega
    · simp only [Par.ok.injEq] at h
      rw [← h.2]
      exact h2'
theorem litP_lt {N : Nat} {r r1 : List TP} {p : LitL} (h : litP N r = .ok p r1) : r1.length < r.length := by
  unfold litP at h
  split at h
  · split at h
    · simp at h
    · rename_i a r2 h2
      have := atomP_lt h2
      simp only [Par.ok.injEq] at h
      rw [← h.2]
      simp at this
      omega
  · split at h
    · split at h
      · simp at h
      · rename_i a r2 h2
        have := atomP_lt h2
        simp only [Par.ok.injEq] at h
        rw [← h.2]
        exact this
    · split at h
      · simp at h
      · rename_i a r2 h2
        have h2' := termP_lt h2
        split at h
        · split at h
          · simp at h
          · rename_i u r3 h3
            have h3' := termP_lt h3
            simp only [Par.ok.injEq] at h
            rw [← h.2]
            simp at h3'
            omega
        · simp at h
theorem arityP_lt {N : Nat} {r r1 : List TP} {p : Int} (h : arityP N r = .ok p r1) : r1.length < r.length := by
  unfold arityP at h
  repeat' split at h
  all_goals first
    | (simp at h; done)
    | (simp only [Par.ok.injEq] at h
       rw [← h.2]
       exact tail_lt (N := N) (by simp_all))
theorem declP_lt {N : Nat} {r r1 : List TP} {p : DeclL} (h : declP N r = .ok p r1) : r1.length < r.length := by
  unfold declP at h
  split at h
  · simp at h
  · rename_i n r2 h2
    have h2' := nameP_lt h2
    split at h
    · simp at h
    · rename_i l r3 h3
      have h3' := arityP_lt h3
      have := markP_le h
      simp at h3'
      omega
theorem ruleP_lt {N : Nat} {r r1 : List TP} {p : RuleL} (h : ruleP N r = .ok p r1) : r1.length < r.length := by
  unfold ruleP at h
  split at h
  · simp at h
  · rename_i n r2 h2
    have h2' := atomP_lt h2
    split at h
    · split at h
      · simp at h
      · rename_i l r3 h3
        have h3' := someP_le (fun _ _ _ => litP_lt) _ _ _ _ h3
        have := markP_le h
        simp at h3'
        omega
    · have := markP_le h
      omega
theorem progF_more (N f : Nat) : ∀ (g : Nat) (ds : List DeclL) (rs : List RuleL) (r : List TP), r.length < f → r.length < g → progF N f ds rs r = progF N g ds rs r := by
  induction f with
  | zero => intro g ds rs r h; omega
  | succ f ih =>
    intro g ds rs r h1 h2
    match g, h2 with
    | g + 1, h2 =>
      match r with
      | [] => rfl
      | x :: r =>
        unfold progF
        split
        · split
          · rfl
          · split
            · rfl
            · rename_i d r1 hd
              have := declP_lt hd
              exact ih g _ _ _ (by omega) (by omega)
        · split
          · rfl
          · split
            · rfl
            · rename_i d r1 hd
              have := ruleP_lt hd
              exact ih g _ _ _ (by omega) (by omega)
/-- The clauses of what is left, of whatever length. -/
def progT (N : Nat) (ds : List DeclL) (rs : List RuleL) (r : List TP) : Par (List DeclL × List RuleL) := progF N (r.length + 1) ds rs r
theorem progT_nil (N : Nat) (ds : List DeclL) (rs : List RuleL) : progT N ds rs [] = .ok (ds, rs) [] := rfl
theorem progT_cons (N : Nat) (ds : List DeclL) (rs : List RuleL) (x : TP) (r : List TP) : progT N ds rs (x :: r) =
    if isM N (x :: r) 1 [47] then
      if ds.length == 400 then .bad x.2 4
      else match declP N (x :: r) with
        | .bad a e => .bad a e
        | .ok d r1 => progT N (ds ++ [d]) rs r1
    else
      if rs.length == 400 then .bad x.2 4
      else match ruleP N (x :: r) with
        | .bad a e => .bad a e
        | .ok c r1 => progT N ds (rs ++ [c]) r1 := by
  unfold progT
  rw [progF]
  split
  · split
    · rfl
    · split
      · rfl
      · rename_i d r1 hd
        have := declP_lt hd
        exact progF_more N _ _ _ _ _ (by simp at this ⊢; omega) (by omega)
  · split
    · rfl
    · split
      · rfl
      · rename_i d r1 hd
        have := ruleP_lt hd
        exact progF_more N _ _ _ _ _ (by simp at this ⊢; omega) (by omega)
end Go.Proofs.YtminbdcabacfbaaGreatDoor.V
