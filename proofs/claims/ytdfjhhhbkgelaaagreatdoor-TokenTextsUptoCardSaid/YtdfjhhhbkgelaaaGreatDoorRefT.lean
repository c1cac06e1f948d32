/- The document's Text is the text. -/
import Derived.Test.YtdfjhhhbkgelaaaGreatDoorFig
import Derived.Test.YtdfjhhhbkgelaaaGreatDoorRefP
import Derived.Test.YtdfjhhhbkgelaaaGreatDoorText
import Derived.Test.YtdfjhhhbkgelaaaGreatDoorBoxS
namespace Go.Proofs.YtdfjhhhbkgelaaaGreatDoor.V
set_option linter.unusedVariables false
set_option linter.unusedSimpArgs false
open Go.RowKit

theorem own_one (w : World) (b : UInt8) : (w.alloc (.cells #[.int .u8 (b.toNat : Int)] 5)).ownsRow w.heap.size 5 1 (.slice (some ⟨w.heap.size, 0, none⟩) 1 1) 1 (bytesV [b]) :=
  ⟨rfl, .inr ⟨w.heap.size, 1, _, rfl, Nat.le_refl _, heap_alloc_new w _, Nat.le_refl _, by decide, rfl, rfl⟩⟩
/-- Bytes behind bytes. -/
theorem wp_app {ops : Array Oper} {rest : List Oper} {o : Oper} {a : Act} {Q : Exit → Act → World → Prop} {q : Nat} {w1 W : World} (hgd : o.guard = none) (s x : Operand)
    (ho : o.op = .call { callee := .builtin .append, args := #[s, x], argTypes := #[48, 48] })
    (v : Value) (n m : Nat) (xs news : List UInt8) (hs : a.eval s = v) (hown : W.ownsRow q 5 1 v n (bytesV xs)) (hm : news.length = m) (hx : a.eval x = .slice (some ⟨W.heap.size, 0, none⟩) m m)
    (hn : n + m ≤ 1099511627776) (hB : Below q w1 W) (hq : q ≤ W.heap.size)
    (h : ∀ A c W', W'.ownsRow q 5 1 (.slice A (n + m) c) (n + m) (bytesV (xs ++ news)) → Below q w1 W' → wpList Tryz.prog ops Q rest (a.put o.dst (.slice A (n + m) c)) W') :
    wpList Tryz.prog ops Q (o :: rest) a (W.alloc (.cells (bytesV news).toArray 5)) := by
  obtain ⟨i0, hi, hz0, hz1, hz2⟩ := info_parts infoByte
  refine wpList_append_own_at _ hgd s x 48 ho q 5 i0 (.int .u8 0) 1 1 Tryz.underlying48 hi hz0 hz1 hz2 rfl (by decide) v n (bytesV xs) hs (hown.alloc _) ⟨W.heap.size, 0, none⟩ m m (bytesV news) hx ?_ ?_ ?_ ?_ ?_ ?_ ?_
  · rw [bytesV_length, hm, Nat.mul_one]
  · intro j u hu
    have h1 := cell_of_row (W.alloc (.cells (bytesV news).toArray 5)) W.heap.size j _ _ _ (heap_alloc_new W _)
    rw [List.getElem?_toArray, hu] at h1
    have e : Addr.add ⟨W.heap.size, 0, none⟩ j = ⟨W.heap.size, j, none⟩ := by
      unfold Addr.add
      split <;> simp_all
    rw [e]
    exact h1
  · intro u hu
    obtain ⟨b, _, rfl⟩ := List.mem_map.1 hu
    rfl
  · unfold maxLen; omega
  · omega
  · rw [World.size_alloc]; omega
  intro v2 w2 hown2 hg2 _ _
  obtain ⟨A2, c2, rfl⟩ := own_slice hown2
  rw [← bytesV_append] at hown2
  refine h A2 c2 w2 hown2 ?_
  have h1 := hB.alloc hq (.cells (bytesV news).toArray 5)
  exact h1.grown hg2 (by rw [World.size_alloc]; omega) (fun r hr => own_from hown r hr)
/-- What is owned is read as a string. -/
theorem conv_own {q n c : Nat} {A : Option Addr} {W : World} {xs : List UInt8} (h : W.ownsRow q 5 1 (.slice A n c) n (bytesV xs)) (hx : 0 < xs.length) : (convert 48 9 (.slice A n c)).run Tryz.prog W = .ok (.string ⟨xs.toArray⟩) W := by
  have hl : xs.length = n := by have := h.1; rw [bytesV_length, Nat.mul_one] at this; exact this
  rcases h.2 with ⟨_, h2⟩ | ⟨g, cap, cur, hv, hg, hk, hnc, _, hcs, hcur⟩
  · omega
  · cases hv
    have hs : (⟨xs.toArray⟩ : ByteArray).size = n := by rw [← hl]; exact List.size_toArray
    rw [← hs]
    refine Lib.run_convert_whole (P := Tryz.prog) _ 48 5 9 Tryz.underlying48 Tryz.underlying5 Tryz.underlying9 g 0 ⟨xs.toArray⟩ (fun i hi => ?_) _
    have hi' : i < xs.length := by rw [hl, ← hs]; exact hi
    have h1 := cell_of_row W g i _ _ _ hk
    have h2 : cur[i]? = (bytesV xs)[i]? := by
      rw [← hcur, Nat.mul_one, List.getElem?_take_of_lt (by omega)]
      simp
    rw [h2] at h1
    rw [Nat.zero_add, h1]
    simp [bytesV, hi', ByteArray.getElem_eq_getElem_data]

set_option maxRecDepth 100000 in
set_option maxHeartbeats 8000000 in
theorem refText_calls (s : Bool) (t : ByteArray) (n : Int) (w : World) (ht : t.size ≤ 1048576) (h0 : -9223372036854775808 ≤ n) (h1 : n ≤ 9223372036854775807) :
    Calls Tryz.prog 24 #[.agg #[.bool s, .string t, .int .i64 n]] w fun e w' => e = .returned (.string ⟨(textL s t.data.toList n).toArray⟩) ∧ Below w.heap.size w w' := by
  have HT := Lib.hid ht
  have HW := Lib.hid ((Below.refl w.heap.size w).alloc (Nat.le_refl _) (.cells #[.bool s, .string t, .int .i64 n] 59))
  have hbx := Box.new w s t n
  cases s with
  | false =>
    have HF := Lib.hid (fun W => fig_calls n.natAbs n W (Nat.le_refl _) h0 h1)
    clear h0 h1 ht hbx
    go_enter Tryz.func24, Tryz.ntmps24
    go_wp2_with fail
    refine (HF.out _).mono ?_
    rintro e w2 ⟨rfl, hb⟩
    have hb' := below_then HW.out hb HW.out.size
    go_wp2_with fail
    go_ret
    exact ⟨rfl, hb'⟩
  | true =>
    clear h0 h1
    obtain ⟨w1, hw1⟩ : ∃ w1, w.alloc (.cells #[.bool true, .string t, .int .i64 n] 59) = w1 := ⟨_, rfl⟩
    rw [hw1] at hbx HW
    have HX := Lib.hid hbx
    have E1 := Lib.hid hw1
    clear hw1 hbx
    have hmx : t.size ≤ 9223372036854775807 := by omega
    go_enter Tryz.func24, Tryz.ntmps24
    go_wp2_with fail
    rw [E1.out]
    refine (refPlain_calls _ _ ht).mono ?_
    rintro e w2 ⟨rfl, hb⟩
    have HX2 := Lib.hid (HX.out.below hb)
    have H2 := Lib.hid (below_then HW.out hb HW.out.size)
    have a1 := HX2.out.c1
    have hlen : t.data.toList.length = t.size := by simp
    clear hb HX E1 HW
    by_cases hy : plainL t.data.toList = true ∧ t.size ≤ 32
    · have HE := Lib.hid (show textL true t.data.toList n = t.data.toList from if_pos ⟨hy.1, by omega⟩)
      rw [hy.1]
      have hld : decide ((t.size : Int) ≤ 32) = true := decide_eq_true (by omega)
      clear hy hlen
      go_wp2_with fail
      go_ret
      exact ⟨by rw [HE.out, of_bytes]; rfl, H2.out⟩
    · have HE := Lib.hid (show textL true t.data.toList n = 39 :: escL t.data.toList ++ [39] from if_neg (fun h => hy ⟨h.1, by omega⟩))
      have HL := Lib.hid hlen
      have hkey : plainL t.data.toList = false ∨ (plainL t.data.toList = true ∧ decide ((t.size : Int) ≤ 32) = false) := by
        cases hp : plainL t.data.toList
        · exact .inl rfl
        · refine .inr ⟨rfl, decide_eq_false ?_⟩
          intro h
          exact hy ⟨hp, by omega⟩
      clear hy hlen
      rcases hkey with hp | ⟨hp, hld⟩
      all_goals
        rw [hp]
        go_wp2_with fail
        have hB0 : Below w2.heap.size w2 (w2.alloc (.cells #[.int .u8 39] 5)) := (Below.refl _ _).alloc (Nat.le_refl _) _
        go_loopw [3, 4] (fun v i wr => ∃ k m A c, k ≤ t.size ∧ i = .int .i64 (k : Nat) ∧ v = .slice A m c ∧ wr.ownsRow w2.heap.size 5 1 (.slice A m c) m (bytesV (39 :: escL (t.data.toList.take k))) ∧ Below w2.heap.size w2 wr) (fun _ i _ => t.size - (intOf i).toNat)
        case atStart => exact ⟨0, 1, _, 1, by omega, rfl, rfl, own_one w2 39, hB0⟩
        case round =>
          obtain ⟨k, m, A, c, hk, rfl, rfl, hown, hB⟩ := hrel
          have hb1 := HX2.out.below hB
          have a1 := hb1.c1
          have HB := Lib.hid hB
          have HO := Lib.hid hown
          have hm : m ≤ 2097153 := by
            have h1 := hown.1
            have h2 : (escL (t.data.toList.take k)).length ≤ (escL t.data.toList).length := escL_take_le _ _
            have h3 := escL_length t.data.toList
            have h4 := cntS_le t.data.toList
            have h5 := HL.out
            rw [bytesV_length, List.length_cons] at h1
            omega
          have hq := hB.size
          clear hB hb1 hown
          by_cases hlt : k < t.size
          · have hd : decide ((k : Int) < (t.size : Int)) = true := decide_eq_true (by omega)
            have hkl : k < t.data.toList.length := by rw [HL.out]; exact hlt
            have HT1 := Lib.hid (escL_take_succ hkl)
            have hge : t.data.toList[k] = t[k]'hlt := by rw [ByteArray.getElem_eq_getElem_data]; simp
            rw [hge] at HT1
            obtain ⟨b, hb⟩ : ∃ b, t[k]'hlt = b := ⟨_, rfl⟩
            rw [hb] at HT1
            have HBB := Lib.hid hb
            clear hge hkl hb
            by_cases b10 : b = 10
            · have g10 : (((t[k]'hlt).toNat : Int) == 10) = true := by rw [HBB.out, b10]; rfl
              have HE1 := Lib.hid (show escB b = [92, 110] by rw [b10]; rfl)
              clear b10
              go_wp2_with (at_builtin; refine RowKit.Hid.out ?_)
              refine Lib.hid ?_
              refine wp_app rfl (.tmp 37) (.tmp 38) rfl _ m 2 _ [92, 110] rfl HO.out rfl rfl (by omega) HB.out hq ?_
              intro A2 c2 W2 hown2 hB2
              go_wp2_with fail
              refine ⟨⟨k + 1, m + 2, A2, c2, by omega, by simp, rfl, ?_, hB2⟩, ?_⟩
              · rw [show (39 :: escL (List.take (k + 1) t.data.toList)) = (39 :: escL (List.take k t.data.toList)) ++ [92, 110] by rw [HT1.out, HE1.out]; simp]
                exact hown2
              · show t.size - ((k : Int) + 1).toNat < t.size - (k : Int).toNat
                omega
            · have g10 : (((t[k]'hlt).toNat : Int) == 10) = false := by
                rw [beq_eq_false_iff_ne, HBB.out]
                intro h
                exact b10 (UInt8.toNat_inj.1 (by have : (10 : UInt8).toNat = 10 := rfl; omega))
              by_cases b92 : b = 92
              · have g92 : (((t[k]'hlt).toNat : Int) == 92) = true := by rw [HBB.out, b92]; rfl
                have HE1 := Lib.hid (show escB b = [92] ++ [t[k]'hlt] by rw [HBB.out, b92]; rfl)
                clear b10 b92
                go_wp2_with (at_builtin; refine RowKit.Hid.out ?_)
                refine Lib.hid ?_
                refine wp_app rfl (.tmp 46) (.tmp 47) rfl _ m 1 _ [92] rfl HO.out rfl rfl (by omega) HB.out hq ?_
                intro A2 c2 W2 hown2 hB2
                have HO2 := Lib.hid hown2
                have HB2 := Lib.hid hB2
                have hq2 := hB2.size
                clear hown2 hB2
                go_wp2_with (at_builtin; refine RowKit.Hid.out ?_)
                refine Lib.hid ?_
                refine wp_app rfl (.tmp 49) (.tmp 51) rfl _ (m + 1) 1 _ [t[k]'hlt] rfl HO2.out rfl rfl (by omega) HB2.out hq2 ?_
                intro A3 c3 W3 hown3 hB3
                go_wp2_with fail
                refine ⟨⟨k + 1, m + 1 + 1, A3, c3, by omega, by simp, rfl, ?_, hB3⟩, ?_⟩
                · rw [show (39 :: escL (List.take (k + 1) t.data.toList)) = ((39 :: escL (List.take k t.data.toList)) ++ [92]) ++ [t[k]'hlt] by rw [HT1.out, HE1.out]; simp]
                  exact hown3
                · show t.size - ((k : Int) + 1).toNat < t.size - (k : Int).toNat
                  omega
              · have g92 : (((t[k]'hlt).toNat : Int) == 92) = false := by
                  rw [beq_eq_false_iff_ne, HBB.out]
                  intro h
                  exact b92 (UInt8.toNat_inj.1 (by have : (92 : UInt8).toNat = 92 := rfl; omega))
                by_cases b39 : b = 39
                · have g39 : (((t[k]'hlt).toNat : Int) == 39) = true := by rw [HBB.out, b39]; rfl
                  have HE1 := Lib.hid (show escB b = [92] ++ [t[k]'hlt] by rw [HBB.out, b39]; rfl)
                  clear b10 b92 b39
                  go_wp2_with (at_builtin; refine RowKit.Hid.out ?_)
                  refine Lib.hid ?_
                  refine wp_app rfl (.tmp 46) (.tmp 47) rfl _ m 1 _ [92] rfl HO.out rfl rfl (by omega) HB.out hq ?_
                  intro A2 c2 W2 hown2 hB2
                  have HO2 := Lib.hid hown2
                  have HB2 := Lib.hid hB2
                  have hq2 := hB2.size
                  clear hown2 hB2
                  go_wp2_with (at_builtin; refine RowKit.Hid.out ?_)
                  refine Lib.hid ?_
                  refine wp_app rfl (.tmp 49) (.tmp 51) rfl _ (m + 1) 1 _ [t[k]'hlt] rfl HO2.out rfl rfl (by omega) HB2.out hq2 ?_
                  intro A3 c3 W3 hown3 hB3
                  go_wp2_with fail
                  refine ⟨⟨k + 1, m + 1 + 1, A3, c3, by omega, by simp, rfl, ?_, hB3⟩, ?_⟩
                  · rw [show (39 :: escL (List.take (k + 1) t.data.toList)) = ((39 :: escL (List.take k t.data.toList)) ++ [92]) ++ [t[k]'hlt] by rw [HT1.out, HE1.out]; simp]
                    exact hown3
                  · show t.size - ((k : Int) + 1).toNat < t.size - (k : Int).toNat
                    omega
                · have g39 : (((t[k]'hlt).toNat : Int) == 39) = false := by
                    rw [beq_eq_false_iff_ne, HBB.out]
                    intro h
                    exact b39 (UInt8.toNat_inj.1 (by have : (39 : UInt8).toNat = 39 := rfl; omega))
                  have HE1 := Lib.hid (show escB b = [t[k]'hlt] by
                    rw [HBB.out]
                    rcases escB_cases b with ⟨e, _⟩ | ⟨e, _⟩ | ⟨e, _⟩ | ⟨_, _, _, e⟩
                    · exact absurd e b10
                    · exact absurd e b39
                    · exact absurd e b92
                    · exact e)
                  clear b10 b92 b39
                  go_wp2_with (at_builtin; refine RowKit.Hid.out ?_)
                  refine Lib.hid ?_
                  refine wp_app rfl (.tmp 49) (.tmp 51) rfl _ m 1 _ [t[k]'hlt] rfl HO.out rfl rfl (by omega) HB.out hq ?_
                  intro A3 c3 W3 hown3 hB3
                  go_wp2_with fail
                  refine ⟨⟨k + 1, m + 1, A3, c3, by omega, by simp, rfl, ?_, hB3⟩, ?_⟩
                  · rw [show (39 :: escL (List.take (k + 1) t.data.toList)) = (39 :: escL (List.take k t.data.toList)) ++ [t[k]'hlt] by rw [HT1.out, HE1.out]; simp]
                    exact hown3
                  · show t.size - ((k : Int) + 1).toNat < t.size - (k : Int).toNat
                    omega
          · have hd : decide ((k : Int) < (t.size : Int)) = false := decide_eq_false (by omega)
            have HK := Lib.hid (show t.data.toList.take k = t.data.toList from List.take_of_length_le (by rw [HL.out]; omega))
            go_wp2_with (at_builtin; refine RowKit.Hid.out ?_)
            refine Lib.hid ?_
            refine wp_app rfl (.tmp 53) (.tmp 54) rfl _ m 1 _ [39] rfl HO.out rfl rfl (by omega) HB.out hq ?_
            intro A3 c3 W3 hown3 hB3
            have hcv := conv_own hown3 (by simp)
            rw [HK.out] at hcv
            go_wp2_with fail
            go_ret
            exact ⟨by rw [HE.out]; rfl, H2.out.trans (Below.mono hB3 H2.out.size)⟩
end Go.Proofs.YtdfjhhhbkgelaaaGreatDoor.V
