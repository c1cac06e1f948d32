/- The document's quoted: a name in marks. -/
import Derived.Test.YtdfjhhhbkgelaaaGreatDoorR5a
import Derived.Test.YtdfjhhhbkgelaaaGreatDoorQuot
namespace Go.Proofs.YtdfjhhhbkgelaaaGreatDoor.V
set_option linter.unusedVariables false
set_option linter.unusedSimpArgs false
open Go.RowKit

/-- The document's answer's block. -/
def IsGot (T : Nat) (v0 v1 v2 v3 v4 v5 v6 : Value) (w : World) : Prop := w.heap[T]? = some (.cells #[v0, v1, v2, v3, v4, v5, v6] 45 (0, 0))
section
variable {T : Nat} {v0 v1 v2 v3 v4 v5 v6 : Value} {w : World}
theorem IsGot.c0 (h : IsGot T v0 v1 v2 v3 v4 v5 v6 w) : w.cell? ⟨T, 0, none⟩ = some v0 := cell_of_row w T 0 _ _ _ h
theorem IsGot.c1 (h : IsGot T v0 v1 v2 v3 v4 v5 v6 w) : w.cell? ⟨T, 1, none⟩ = some v1 := cell_of_row w T 1 _ _ _ h
theorem IsGot.c2 (h : IsGot T v0 v1 v2 v3 v4 v5 v6 w) : w.cell? ⟨T, 2, none⟩ = some v2 := cell_of_row w T 2 _ _ _ h
theorem IsGot.c3 (h : IsGot T v0 v1 v2 v3 v4 v5 v6 w) : w.cell? ⟨T, 3, none⟩ = some v3 := cell_of_row w T 3 _ _ _ h
theorem IsGot.c4 (h : IsGot T v0 v1 v2 v3 v4 v5 v6 w) : w.cell? ⟨T, 4, none⟩ = some v4 := cell_of_row w T 4 _ _ _ h
theorem IsGot.c5 (h : IsGot T v0 v1 v2 v3 v4 v5 v6 w) : w.cell? ⟨T, 5, none⟩ = some v5 := cell_of_row w T 5 _ _ _ h
theorem IsGot.c6 (h : IsGot T v0 v1 v2 v3 v4 v5 v6 w) : w.cell? ⟨T, 6, none⟩ = some v6 := cell_of_row w T 6 _ _ _ h
theorem IsGot.fr (h : IsGot T v0 v1 v2 v3 v4 v5 v6 w) (i : Nat) : w.frozen? ⟨T, i, none⟩ = false := frozen_of_row w T i _ _ h
theorem IsGot.lt (h : IsGot T v0 v1 v2 v3 v4 v5 v6 w) : T < w.heap.size := (Array.getElem?_eq_some_iff.1 h).1
theorem IsGot.new (w : World) : IsGot w.heap.size v0 v1 v2 v3 v4 v5 v6 (w.alloc (.cells #[v0, v1, v2, v3, v4, v5, v6] 45)) := heap_alloc_new w _
theorem IsGot.grown {w' : World} {row : Option Nat} (h : IsGot T v0 v1 v2 v3 v4 v5 v6 w) (hg : w.grownBy w' row) (hne : some T ≠ row) : IsGot T v0 v1 v2 v3 v4 v5 v6 w' := (hg.block T (Array.getElem?_eq_some_iff.1 h).1 hne).trans h
theorem IsGot.below {w' : World} (h : IsGot T v0 v1 v2 v3 v4 v5 v6 w) (hb : Below w.heap.size w w') : IsGot T v0 v1 v2 v3 v4 v5 v6 w' := (hb.block T h.lt).trans h
end
abbrev gotSet (T : Nat) (u0 u1 u2 u3 u4 u5 u6 : Value) (w : World) : World := ((((((w.setCell ⟨T, 0, none⟩ u0).setCell ⟨T, 1, none⟩ u1).setCell ⟨T, 2, none⟩ u2).setCell ⟨T, 3, none⟩ u3).setCell ⟨T, 4, none⟩ u4).setCell ⟨T, 5, none⟩ u5).setCell ⟨T, 6, none⟩ u6
theorem IsGot.set0 {T : Nat} {v0 v1 v2 v3 v4 v5 v6 : Value} {w : World} (h : IsGot T v0 v1 v2 v3 v4 v5 v6 w) (u : Value) : IsGot T u v1 v2 v3 v4 v5 v6 (w.setCell ⟨T, 0, none⟩ u) := set_block h u
theorem IsGot.set1 {T : Nat} {v0 v1 v2 v3 v4 v5 v6 : Value} {w : World} (h : IsGot T v0 v1 v2 v3 v4 v5 v6 w) (u : Value) : IsGot T v0 u v2 v3 v4 v5 v6 (w.setCell ⟨T, 1, none⟩ u) := set_block h u
theorem IsGot.set2 {T : Nat} {v0 v1 v2 v3 v4 v5 v6 : Value} {w : World} (h : IsGot T v0 v1 v2 v3 v4 v5 v6 w) (u : Value) : IsGot T v0 v1 u v3 v4 v5 v6 (w.setCell ⟨T, 2, none⟩ u) := set_block h u
theorem IsGot.set3 {T : Nat} {v0 v1 v2 v3 v4 v5 v6 : Value} {w : World} (h : IsGot T v0 v1 v2 v3 v4 v5 v6 w) (u : Value) : IsGot T v0 v1 v2 u v4 v5 v6 (w.setCell ⟨T, 3, none⟩ u) := set_block h u
theorem IsGot.set4 {T : Nat} {v0 v1 v2 v3 v4 v5 v6 : Value} {w : World} (h : IsGot T v0 v1 v2 v3 v4 v5 v6 w) (u : Value) : IsGot T v0 v1 v2 v3 u v5 v6 (w.setCell ⟨T, 4, none⟩ u) := set_block h u
theorem IsGot.set5 {T : Nat} {v0 v1 v2 v3 v4 v5 v6 : Value} {w : World} (h : IsGot T v0 v1 v2 v3 v4 v5 v6 w) (u : Value) : IsGot T v0 v1 v2 v3 v4 u v6 (w.setCell ⟨T, 5, none⟩ u) := set_block h u
theorem IsGot.set6 {T : Nat} {v0 v1 v2 v3 v4 v5 v6 : Value} {w : World} (h : IsGot T v0 v1 v2 v3 v4 v5 v6 w) (u : Value) : IsGot T v0 v1 v2 v3 v4 v5 u (w.setCell ⟨T, 6, none⟩ u) := set_block h u
theorem IsGot.set {T : Nat} {v0 v1 v2 v3 v4 v5 v6 : Value} {w : World} (h : IsGot T v0 v1 v2 v3 v4 v5 v6 w) (u0 u1 u2 u3 u4 u5 u6 : Value) : IsGot T u0 u1 u2 u3 u4 u5 u6 (gotSet T u0 u1 u2 u3 u4 u5 u6 w) :=
  ((((((h.set0 u0).set1 u1).set2 u2).set3 u3).set4 u4).set5 u5).set6 u6
theorem below_gotSet {B T : Nat} {w w' : World} (h : Below B w w') (hT : B ≤ T) (u0 u1 u2 u3 u4 u5 u6 : Value) : Below B w (gotSet T u0 u1 u2 u3 u4 u5 u6 w') :=
  ((((((h.setCell (p := ⟨T, 0, none⟩) hT _).setCell (p := ⟨T, 1, none⟩) hT _).setCell (p := ⟨T, 2, none⟩) hT _).setCell (p := ⟨T, 3, none⟩) hT _).setCell (p := ⟨T, 4, none⟩) hT _).setCell (p := ⟨T, 5, none⟩) hT _).setCell (p := ⟨T, 6, none⟩) hT _

/-- The document's answer of what stands at a text's place. -/
def gotV (N : Nat) : Got → Value
  | .bad e => .agg #[.int .i64 0, .string ⟨#[]⟩, .int .i64 0, .bool false, .int .i64 0, .int .i64 0, .int .i64 (e : Int)]
  | .tok t r => .agg #[.int .i64 (t.k : Int), .string (bs t.s), .int .i64 t.n, .bool t.q, .int .i64 0, .int .i64 ((N - r.length : Nat) : Int), .int .i64 0]
theorem drop_len {s : ByteArray} {k : Nat} (h : k ≤ s.size) : s.size - (s.data.toList.drop k).length = k := by
  have : (s.data.toList.drop k).length = s.size - k := by simp
  omega

/-- What quoted keeps, round by round. -/
structure RQ (s : ByteArray) (a k : Nat) (w W : World) (v : Value) (acc : List UInt8) : Prop where
  hk : IsGot w.heap.size (.int .i64 0) (.string ⟨#[]⟩) (.int .i64 0) (.bool false) (.int .i64 0) (.int .i64 0) (.int .i64 0) W
  ho : W.ownsRow (w.heap.size + 1) 5 1 v acc.length (u8V acc)
  hz : acc = [] → v = .slice none 0 0
  hn : acc.length ≤ k
  hb : Below w.heap.size w W
  hq : quotL (s.data.toList.drop a) = (quotL (s.data.toList.drop k)).map fun p => (acc ++ p.1, p.2)
theorem RQ.conv {s : ByteArray} {a k n c : Nat} {A : Option Addr} {w W : World} {acc : List UInt8} (h : RQ s a k w W (.slice A n c) acc) :
    (convert 48 9 (.slice A n c)).run Tryz.prog W = .ok (.string ⟨acc.toArray⟩) W := by
  by_cases he : acc = []
  · have hz := h.hz he
    cases hz
    rw [he]
    exact u8_nil W
  · have ho := h.ho
    have hn : acc.length = n := by
      have := ho.1
      rcases ho.2 with ⟨hv, h2⟩ | ⟨g, cap, cur, hv, _⟩
      · cases hv
        omega
      · cases hv
        rfl
    rw [hn] at ho
    exact u8_conv ho (by cases acc with | nil => exact absurd rfl he | cons => simp)
/-- A byte more. -/
theorem RQ.more {s : ByteArray} {a k k' m c : Nat} {A : Option Addr} {b : UInt8} {w W W2 : World} {v : Value} {acc : List UInt8} (h : RQ s a k w W v acc)
    (ho : W2.ownsRow (w.heap.size + 1) 5 1 (.slice A m c) m (u8V acc ++ [.int .u8 (b.toNat : Int)])) (hm : m = acc.length + 1) (hg2 : W.grownBy W2 v.ownBlock) (hk : acc.length + 1 ≤ k')
    (hq : quotL (s.data.toList.drop k) = (quotL (s.data.toList.drop k')).map fun p => (b :: p.1, p.2)) : RQ s a k' w W2 (.slice A m c) (acc ++ [b]) := by
  have ho1 : ∀ j, v.ownBlock = some j → w.heap.size + 1 ≤ j := fun j hj => o_from h.ho j hj
  exact
    { hk := h.hk.grown hg2 (fun e => by have := ho1 _ e.symm; omega)
      ho := by
        rw [List.length_append, List.length_singleton, u8V_snoc, ← hm]
        exact ho
      hz := fun e => by simp at e
      hn := by simpa using hk
      hb := h.hb.grown hg2 h.hb.size (fun j hj => by have := ho1 j hj; omega)
      hq := by
        rw [h.hq, hq]
        cases quotL (s.data.toList.drop k') <;> simp }

set_option maxRecDepth 100000 in
set_option maxHeartbeats 8000000 in
theorem rquoted_calls (s : ByteArray) (a : Nat) (w : World) (ha : a ≤ s.size) (hs : s.size ≤ 65536) :
    Calls Tryz.prog 45 #[.string s, .int .i64 (a : Int)] w fun e w' => Below w.heap.size w w' ∧ e = .returned (gotV s.size (qres (quotL (s.data.toList.drop a)))) := by
  have HS := Lib.hid (show RQ s a a w (w.alloc (.cells #[.int .i64 0, .string ⟨#[]⟩, .int .i64 0, .bool false, .int .i64 0, .int .i64 0, .int .i64 0] 45)) (.slice none 0 0) [] from
    { hk := IsGot.new w
      ho := World.ownsRow_nil _ _ _ _
      hz := fun _ => rfl
      hn := Nat.zero_le _
      hb := (Below.refl w.heap.size w).alloc (Nat.le_refl _) _
      hq := by simp })
  go_enter Tryz.func45, Tryz.ntmps45
  go_wp2_with fail
  go_loopw [1, 5] (fun i v wr => ∃ k acc, k ≤ s.size ∧ i = .int .i64 (k : Int) ∧ RQ s a k w wr v acc) (fun i _ _ => s.size + 1 - (intOf i).toNat)
  case atStart => exact ⟨a, [], ha, rfl, HS.out⟩
  case round =>
    obtain ⟨k, acc, hk, rfl, hW⟩ := hrel
    obtain ⟨A, c, rfl⟩ := o_slice hW.ho
    have HW := Lib.hid hW
    have k0 := hW.hk.c0; have k1 := hW.hk.c1; have k2 := hW.hk.c2; have k3 := hW.hk.c3; have k4 := hW.hk.c4; have k5 := hW.hk.c5; have k6 := hW.hk.c6
    have l0 := hW.hk.fr 0; have l1 := hW.hk.fr 1; have l2 := hW.hk.fr 2; have l3 := hW.hk.fr 3; have l4 := hW.hk.fr 4; have l5 := hW.hk.fr 5; have l6 := hW.hk.fr 6
    have HK := Lib.hid hk
    clear hW
    by_cases hkl : k < s.size
    · have hd : decide ((k : Int) < (s.size : Int)) = true := decide_eq_true (by omega)
      have HDR := Lib.hid (drop_at hkl)
      cases h39 : (((s[k]'hkl).toNat : Int) == 39) with
      | true =>
        have HQ := Lib.hid (show quotL (s.data.toList.drop k) = some ([], s.data.toList.drop (k + 1)) by rw [HDR.out, byteN (d := 39) h39 (by decide), q39])
        have hcv := HW.out.conv
        go_wp2_with fail
        have hset := HW.out.hk.set (.int .i64 1) (.string ⟨acc.toArray⟩) (.int .i64 0) (.bool true) (.int .i64 0) (.int .i64 ((k : Int) + 1)) (.int .i64 0)
        have r0 := hset.c0
        have r1 := hset.c1
        have r2 := hset.c2
        have r3 := hset.c3
        have r4 := hset.c4
        have r5 := hset.c5
        have r6 := hset.c6
        refine bodyPost_ret (v := .agg #[.int .i64 1, .string ⟨acc.toArray⟩, .int .i64 0, .bool true, .int .i64 0, .int .i64 ((k : Int) + 1), .int .i64 0]) (by simp [results, Tryz.results45, go_sem, r0, r1, r2, r3, r4, r5, r6]) rfl ⟨below_gotSet HW.out.hb (Nat.le_refl _) _ _ _ _ _ _ _, ?_⟩
        rw [HW.out.hq, HQ.out]
        show _ = Ending.returned (.agg #[.int .i64 1, .string (bs (acc ++ [])), .int .i64 0, .bool true, .int .i64 0, .int .i64 ((s.size - (s.data.toList.drop (k + 1)).length : Nat) : Int), .int .i64 0])
        rw [List.append_nil, drop_len hkl]
        rfl
      | false =>
        have H39 := Lib.hid (byteNot (d := 39) h39 (by decide))
        cases h10 : (((s[k]'hkl).toNat : Int) == 10) with
        | true =>
          have HQ := Lib.hid (show quotL (s.data.toList.drop k) = none by rw [HDR.out, byteN (d := 10) h10 (by decide), q10])
          go_wp2_with fail
          have hset := HW.out.hk.set (.int .i64 0) (.string ⟨#[]⟩) (.int .i64 0) (.bool false) (.int .i64 0) (.int .i64 0) (.int .i64 2)
          have r0 := hset.c0
          have r1 := hset.c1
          have r2 := hset.c2
          have r3 := hset.c3
          have r4 := hset.c4
          have r5 := hset.c5
          have r6 := hset.c6
          refine bodyPost_ret (v := .agg #[.int .i64 0, .string ⟨#[]⟩, .int .i64 0, .bool false, .int .i64 0, .int .i64 0, .int .i64 2]) (by simp [results, Tryz.results45, go_sem, r0, r1, r2, r3, r4, r5, r6]) rfl ⟨below_gotSet HW.out.hb (Nat.le_refl _) _ _ _ _ _ _ _, ?_⟩
          rw [HW.out.hq, HQ.out]
          rfl
        | false =>
          have H10 := Lib.hid (byteNot (d := 10) h10 (by decide))
          cases h92 : (((s[k]'hkl).toNat : Int) == 92) with
          | true =>
            have H92 := Lib.hid (byteN (d := 92) h92 (by decide))
            by_cases hk2 : k + 1 < s.size
            · have he : decide ((s.size : Int) ≤ (k : Int) + 1) = false := decide_eq_false (by omega)
              have HDR2 := Lib.hid (drop_at hk2)
              cases h110 : (((s[k + 1]'hk2).toNat : Int) == 110) with
              | true =>
                have n110 : (((s[k + 1]'hk2).toNat : Int) != 110) = false := by unfold bne; rw [h110]; rfl
                have HQ := Lib.hid (show quotL (s.data.toList.drop k) = (quotL (s.data.toList.drop (k + 2))).map fun p => ((10 : UInt8) :: p.1, p.2) by
                  rw [HDR.out, H92.out, HDR2.out, q92, byteN (d := 110) h110 (by decide)]
                  rfl)
                go_wp2_with (at_builtin; refine RowKit.Hid.out ?_)
                refine Lib.hid ?_
                refine o_app (W := wr) rfl (.tmp 57) (.tmp 59) 48 5 rfl (.int .u8 0) 1 1 Tryz.underlying48 u8_info rfl (by decide) (by decide) #[.int .u8 (((10 : UInt8).toNat : Int))] rfl (by intro u hu; simp at hu; subst hu; rfl) (.slice A acc.length c) acc.length (u8V acc) (by rfl) HW.out.ho (by rfl) (by have := HW.out.hn; omega) (by have := HW.out.hk.lt; omega) ?_
                intro A2 c2 W2 ho2 hg2
                have HM := Lib.hid (HW.out.more ho2 rfl hg2 (k' := k + 2) (by have := HW.out.hn; omega) HQ.out)
                clear ho2 hg2
                go_wp2_with fail
                go_roundw
                case rel => exact ⟨k + 2, acc ++ [10], by omega, by simp <;> omega, HM.out⟩
                case measure => (simp [intOf] <;> omega)
              | false =>
                have n110 : (((s[k + 1]'hk2).toNat : Int) != 110) = true := by unfold bne; rw [h110]; rfl
                have H110 := Lib.hid (byteNot (d := 110) h110 (by decide))
                cases g92 : (((s[k + 1]'hk2).toNat : Int) == 92) with
                | true =>
                  have n92 : (((s[k + 1]'hk2).toNat : Int) != 92) = false := by unfold bne; rw [g92]; rfl
                  have HQ := Lib.hid (show quotL (s.data.toList.drop k) = (quotL (s.data.toList.drop (k + 2))).map fun p => (s[k + 1] :: p.1, p.2) by
                    rw [HDR.out, H92.out, HDR2.out, q92, byteN (d := 92) g92 (by decide)]
                    rfl)
                  go_wp2_with (at_builtin; refine RowKit.Hid.out ?_)
                  refine Lib.hid ?_
                  refine o_app (W := wr) rfl (.tmp 57) (.tmp 59) 48 5 rfl (.int .u8 0) 1 1 Tryz.underlying48 u8_info rfl (by decide) (by decide) #[.int .u8 (((s[k + 1]'hk2).toNat : Int))] rfl (by intro u hu; simp at hu; subst hu; rfl) (.slice A acc.length c) acc.length (u8V acc) (by rfl) HW.out.ho (by rfl) (by have := HW.out.hn; omega) (by have := HW.out.hk.lt; omega) ?_
                  intro A2 c2 W2 ho2 hg2
                  have HM := Lib.hid (HW.out.more ho2 rfl hg2 (k' := k + 2) (by have := HW.out.hn; omega) HQ.out)
                  clear ho2 hg2
                  go_wp2_with fail
                  go_roundw
                  case rel => exact ⟨k + 2, acc ++ [s[k + 1]], by omega, by simp <;> omega, HM.out⟩
                  case measure => (simp [intOf] <;> omega)
                | false =>
                  have n92 : (((s[k + 1]'hk2).toNat : Int) != 92) = true := by unfold bne; rw [g92]; rfl
                  have G92 := Lib.hid (byteNot (d := 92) g92 (by decide))
                  cases g39 : (((s[k + 1]'hk2).toNat : Int) == 39) with
                  | true =>
                    have n39 : (((s[k + 1]'hk2).toNat : Int) != 39) = false := by unfold bne; rw [g39]; rfl
                    have HQ := Lib.hid (show quotL (s.data.toList.drop k) = (quotL (s.data.toList.drop (k + 2))).map fun p => (s[k + 1] :: p.1, p.2) by
                      rw [HDR.out, H92.out, HDR2.out, q92, byteN (d := 39) g39 (by decide)]
                      rfl)
                    go_wp2_with (at_builtin; refine RowKit.Hid.out ?_)
                    refine Lib.hid ?_
                    refine o_app (W := wr) rfl (.tmp 57) (.tmp 59) 48 5 rfl (.int .u8 0) 1 1 Tryz.underlying48 u8_info rfl (by decide) (by decide) #[.int .u8 (((s[k + 1]'hk2).toNat : Int))] rfl (by intro u hu; simp at hu; subst hu; rfl) (.slice A acc.length c) acc.length (u8V acc) (by rfl) HW.out.ho (by rfl) (by have := HW.out.hn; omega) (by have := HW.out.hk.lt; omega) ?_
                    intro A2 c2 W2 ho2 hg2
                    have HM := Lib.hid (HW.out.more ho2 rfl hg2 (k' := k + 2) (by have := HW.out.hn; omega) HQ.out)
                    clear ho2 hg2
                    go_wp2_with fail
                    go_roundw
                    case rel => exact ⟨k + 2, acc ++ [s[k + 1]], by omega, by simp <;> omega, HM.out⟩
                    case measure => (simp [intOf] <;> omega)
                  | false =>
                    have n39 : (((s[k + 1]'hk2).toNat : Int) != 39) = true := by unfold bne; rw [g39]; rfl
                    have HQ := Lib.hid (show quotL (s.data.toList.drop k) = none by
                      rw [HDR.out, H92.out, HDR2.out, q92, H110.out, G92.out, byteNot (d := 39) g39 (by decide)]
                      rfl)
                    go_wp2_with fail
                    have hset := HW.out.hk.set (.int .i64 0) (.string ⟨#[]⟩) (.int .i64 0) (.bool false) (.int .i64 0) (.int .i64 0) (.int .i64 2)
                    have r0 := hset.c0
                    have r1 := hset.c1
                    have r2 := hset.c2
                    have r3 := hset.c3
                    have r4 := hset.c4
                    have r5 := hset.c5
                    have r6 := hset.c6
                    refine bodyPost_ret (v := .agg #[.int .i64 0, .string ⟨#[]⟩, .int .i64 0, .bool false, .int .i64 0, .int .i64 0, .int .i64 2]) (by simp [results, Tryz.results45, go_sem, r0, r1, r2, r3, r4, r5, r6]) rfl ⟨below_gotSet HW.out.hb (Nat.le_refl _) _ _ _ _ _ _ _, ?_⟩
                    rw [HW.out.hq, HQ.out]
                    rfl
            · have he : decide ((s.size : Int) ≤ (k : Int) + 1) = true := decide_eq_true (by omega)
              have HQ := Lib.hid (show quotL (s.data.toList.drop k) = none by rw [HDR.out, H92.out, drop_end (by omega)]; rfl)
              go_wp2_with fail
              have hset := HW.out.hk.set (.int .i64 0) (.string ⟨#[]⟩) (.int .i64 0) (.bool false) (.int .i64 0) (.int .i64 0) (.int .i64 2)
              have r0 := hset.c0
              have r1 := hset.c1
              have r2 := hset.c2
              have r3 := hset.c3
              have r4 := hset.c4
              have r5 := hset.c5
              have r6 := hset.c6
              refine bodyPost_ret (v := .agg #[.int .i64 0, .string ⟨#[]⟩, .int .i64 0, .bool false, .int .i64 0, .int .i64 0, .int .i64 2]) (by simp [results, Tryz.results45, go_sem, r0, r1, r2, r3, r4, r5, r6]) rfl ⟨below_gotSet HW.out.hb (Nat.le_refl _) _ _ _ _ _ _ _, ?_⟩
              rw [HW.out.hq, HQ.out]
              rfl
          | false =>
            have HQ := Lib.hid (show quotL (s.data.toList.drop k) = (quotL (s.data.toList.drop (k + 1))).map fun p => (s[k] :: p.1, p.2) by rw [HDR.out, qother _ _ H39.out H10.out (byteNot (d := 92) h92 (by decide))])
            go_wp2_with (at_builtin; refine RowKit.Hid.out ?_)
            refine Lib.hid ?_
            refine o_app (W := wr) rfl (.tmp 57) (.tmp 59) 48 5 rfl (.int .u8 0) 1 1 Tryz.underlying48 u8_info rfl (by decide) (by decide) #[.int .u8 (((s[k]'hkl).toNat : Int))] rfl (by intro u hu; simp at hu; subst hu; rfl) (.slice A acc.length c) acc.length (u8V acc) (by rfl) HW.out.ho (by rfl) (by have := HW.out.hn; omega) (by have := HW.out.hk.lt; omega) ?_
            intro A2 c2 W2 ho2 hg2
            have HM := Lib.hid (HW.out.more ho2 rfl hg2 (k' := k + 1) (by have := HW.out.hn; omega) HQ.out)
            clear ho2 hg2
            go_wp2_with fail
            go_roundw
            case rel => exact ⟨k + 1, acc ++ [s[k]], by omega, by simp <;> omega, HM.out⟩
            case measure => (simp [intOf] <;> omega)
    · have hd : decide ((k : Int) < (s.size : Int)) = false := decide_eq_false (by omega)
      have HQ := Lib.hid (show quotL (s.data.toList.drop k) = none by rw [drop_end (by omega)]; rfl)
      go_wp2_with fail
      have hset := HW.out.hk.set (.int .i64 0) (.string ⟨#[]⟩) (.int .i64 0) (.bool false) (.int .i64 0) (.int .i64 0) (.int .i64 2)
      have r0 := hset.c0
      have r1 := hset.c1
      have r2 := hset.c2
      have r3 := hset.c3
      have r4 := hset.c4
      have r5 := hset.c5
      have r6 := hset.c6
      refine bodyPost_ret (v := .agg #[.int .i64 0, .string ⟨#[]⟩, .int .i64 0, .bool false, .int .i64 0, .int .i64 0, .int .i64 2]) (by simp [results, Tryz.results45, go_sem, r0, r1, r2, r3, r4, r5, r6]) rfl ⟨below_gotSet HW.out.hb (Nat.le_refl _) _ _ _ _ _ _ _, ?_⟩
      rw [HW.out.hq, HQ.out]
      rfl
end Go.Proofs.YtdfjhhhbkgelaaaGreatDoor.V
