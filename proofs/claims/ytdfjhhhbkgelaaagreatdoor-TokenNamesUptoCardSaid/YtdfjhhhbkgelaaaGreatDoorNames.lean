/- lambrequinlaw05.TokenNames. -/
import Derived.Test.YtdfjhhhbkgelaaaGreatDoorBack
namespace Go.Proofs.YtdfjhhhbkgelaaaGreatDoor.V
set_option linter.unusedVariables false
set_option linter.unusedSimpArgs false
open Go.RowKit

def name1 (s : List UInt8) : Tok := ⟨1, s, 0, true⟩
def num1 (n : Int) : Tok := ⟨3, [], n, false⟩
theorem names_scan (s : List UInt8) (n : Int) (hs : s.length ≤ 8000) (h0 : -9223372036854775808 ≤ n) (h1 : n ≤ 9223372036854775807) :
    (joinL [name1 s, num1 n]).length ≤ 30000 ∧ ∃ p q : Nat, scanL (joinL [name1 s, num1 n]) = .ok [(name1 s, p), (num1 n, q)] := by
  have ha := toldL_size 1 s 0 true (by decide) (by decide)
  have hb := toldL_size 3 [] n false h0 h1
  have hl : (joinL [name1 s, num1 n]).length ≤ 30000 := by
    have e : (joinL [name1 s, num1 n]).length = (toldL 1 s 0 true).length + 1 + ((toldL 3 [] n false).length + 1) := by
      simp [joinL, Tok.told, name1, num1]
      omega
    rw [e]
    simp at hb
    omega
  refine ⟨hl, ?_⟩
  have hf : ∀ t ∈ [name1 s, num1 n], TokFit t := by
    intro t ht
    simp only [List.mem_cons, List.mem_nil_iff, or_false] at ht
    rcases ht with rfl | rfl
    · exact .inl ⟨rfl, rfl, rfl⟩
    · exact .inr (.inr (.inr (.inl ⟨rfl, rfl, rfl, h0, by show n < _; omega⟩)))
  obtain ⟨L', h2, h3⟩ := join_back (joinL [name1 s, num1 n]).length _ hf
  match L', h3 with
  | [(a, p), (b, q)], h3 =>
    simp only [List.map_cons, List.map_nil, List.cons.injEq, and_true] at h3
    obtain ⟨rfl, rfl⟩ := h3
    refine ⟨p, q, ?_⟩
    unfold scanL
    rw [if_neg (by omega)]
    exact h2
theorem two_here (w : World) (s : ByteArray) (n : Int) : ToksAt ((w.alloc (.cells #[.int .i64 1, .string s, .int .i64 0, .bool true, .int .i64 0] 35)).alloc (.cells #[.int .i64 1, .string s, .int .i64 0, .bool true, .int .i64 0, .int .i64 3, .string ⟨#[]⟩, .int .i64 n, .bool false, .int .i64 0] 35)) (some ⟨w.heap.size + 1, 0, none⟩) [⟨1, s, 0, true, 0⟩, ⟨3, ⟨#[]⟩, n, false, 0⟩] := by
  have h := heap_alloc_new (w.alloc (.cells #[.int .i64 1, .string s, .int .i64 0, .bool true, .int .i64 0] 35)) (.cells #[.int .i64 1, .string s, .int .i64 0, .bool true, .int .i64 0, .int .i64 3, .string ⟨#[]⟩, .int .i64 n, .bool false, .int .i64 0] 35)
  rw [World.size_alloc] at h
  intro j t hj
  refine ⟨_, rfl, ?_⟩
  rw [addr_add]
  match j, hj with
  | 0, hj =>
    simp only [List.getElem?_cons_zero, Option.some.injEq] at hj
    subst hj
    exact ⟨cell_of_row _ _ 0 _ _ _ h, cell_of_row _ _ 1 _ _ _ h, cell_of_row _ _ 2 _ _ _ h, cell_of_row _ _ 3 _ _ _ h, cell_of_row _ _ 4 _ _ _ h⟩
  | 1, hj =>
    simp only [List.getElem?_cons_succ, List.getElem?_cons_zero, Option.some.injEq] at hj
    subst hj
    exact ⟨cell_of_row _ _ 5 _ _ _ h, cell_of_row _ _ 6 _ _ _ h, cell_of_row _ _ 7 _ _ _ h, cell_of_row _ _ 8 _ _ _ h, cell_of_row _ _ 9 _ _ _ h⟩
theorem big1 : scanL (⟨#[57, 50, 50, 51, 51, 55, 50, 48, 51, 54, 56, 53, 52, 55, 55, 53, 56, 48, 56]⟩ : ByteArray).data.toList = .bad 0 3 := by kernel_rfl
theorem big2 : scanL (⟨#[45, 57, 50, 50, 51, 51, 55, 50, 48, 51, 54, 56, 53, 52, 55, 55, 53, 56, 48, 57]⟩ : ByteArray).data.toList = .bad 0 3 := by kernel_rfl

set_option maxRecDepth 100000 in
set_option maxHeartbeats 16000000 in
theorem names_calls (s : ByteArray) (n : Int) (w : World) (hs : s.size ≤ 1048576) (h0 : -9223372036854775808 ≤ n) (h1 : n ≤ 9223372036854775807) (hE : ErrW w) (hw : TabW w) :
    Calls Tryz.prog 8 #[.string s, .int .i64 n] w fun e w' => e = .returned (.bool true) ∧ Below w.heap.size w w' := by
  have HE := Lib.hid hE
  have HW := Lib.hid hw
  clear hE hw
  by_cases h8 : 8000 < s.size
  · have hd8 : decide ((8000 : Int) < (s.size : Int)) = true := decide_eq_true (by omega)
    clear h0 h1
    go_enter Tryz.func8, Tryz.ntmps8
    go_wp2_with (go_at_call 10; ((with_reducible refine (shown5_calls _ HE.out HW.out).mono ?_); rintro e w1 ⟨rfl, hb1⟩; have HB1 := Lib.hid hb1; clear hb1))
    go_ret
    exact ⟨rfl, HB1.out⟩
  · have hd8 : decide ((8000 : Int) < (s.size : Int)) = false := decide_eq_false (by omega)
    have hs8 : s.data.toList.length ≤ 8000 := by have : s.data.toList.length = s.size := by simp
                                                 omega
    obtain ⟨hl, p, q, hsc⟩ := names_scan s.data.toList n hs8 h0 h1
    obtain ⟨J, hJ⟩ : ∃ J, bs (joinL [name1 s.data.toList, num1 n]) = J := ⟨_, rfl⟩
    have hJs : J.size ≤ 9223372036854775807 := by rw [← hJ, bs_size]; omega
    have hG : joinG [⟨1, s, 0, true, 0⟩, ⟨3, ⟨#[]⟩, n, false, 0⟩] = joinL [name1 s.data.toList, num1 n] := rfl
    have HJC := Lib.hid (fun (W : World) (A : Option Addr) (c : Nat) (h : ToksAt W A [⟨1, s, 0, true, 0⟩, ⟨3, ⟨#[]⟩, n, false, 0⟩]) (hw : TabW W) => (show Calls Tryz.prog 14 #[.slice A 2 c] W (fun e w' => e = .returned (.string J) ∧ Below W.heap.size W w') from by
      have h2 := join_calls A 2 c _ W rfl h (by
        intro t ht
        simp only [List.mem_cons, List.mem_nil_iff, or_false] at ht
        rcases ht with rfl | rfl
        · exact ⟨by show s.size ≤ _; omega, by show (-9223372036854775808 : Int) ≤ 0; omega, by show (0 : Int) ≤ _; omega⟩
        · exact ⟨by show (0 : Nat) ≤ _; omega, h0, h1⟩) (by rw [hG]; omega) (by decide) hw
      rw [hG, hJ] at h2
      exact h2))
    have HPZ := Lib.hid (fun (W : World) (hE : ErrW W) => scan_yes 2 rfl J W hJs hE (by rw [← hJ]; exact hsc))
    have heq : (s.toList == s.toList) = true := by simp
    have hnn : (n == n) = true := by simp
    have HC := Lib.hid (fun (W : World) (g c B : Nat) (ho : W.ownsRow B 35 5 (.slice (some ⟨g, 0, none⟩) 2 c) 2 (tokCells [(name1 s.data.toList, p), (num1 n, q)])) => (show W.cell? ⟨g, 1, none⟩ = some (.string s) ∧ W.cell? ⟨g, 3, none⟩ = some (.bool true) ∧ W.cell? ⟨g, 7, none⟩ = some (.int .i64 n) from by
      obtain ⟨g', hg, hc⟩ := o_at ho (by decide)
      cases hg
      refine ⟨?_, hc 3 _ rfl, hc 7 _ rfl⟩
      have := hc 1 _ rfl
      rw [this]
      simp only [name1, of_bytes]))
    clear hsc hJ hJs hl hs8 hG h0 h1
    go_enter Tryz.func8, Tryz.ntmps8
    go_wp2_with (go_at_call 10; ((with_reducible refine (shown5_calls _ HE.out HW.out).mono ?_); rintro e w1 ⟨rfl, hb1⟩; have HB1 := Lib.hid hb1; have HE1 := Lib.hid (HE.out.below hb1); have HW1 := Lib.hid (HW.out.below hb1); clear hb1))
    have hB := ((Below.refl w1.heap.size w1).alloc (Nat.le_refl _) (.cells #[.int .i64 1, .string s, .int .i64 0, .bool true, .int .i64 0] 35)).alloc (by simp) (.cells #[.int .i64 1, .string s, .int .i64 0, .bool true, .int .i64 0, .int .i64 3, .string ⟨#[]⟩, .int .i64 n, .bool false, .int .i64 0] 35)
    have HE2 := Lib.hid (HE1.out.below hB)
    have HW2 := Lib.hid (HW1.out.below hB)
    have HB2 := Lib.hid (HB1.out.trans (hB.mono HB1.out.size))
    have HT2 := Lib.hid (two_here w1 s n)
    clear hB
    go_wp2_with (first
      | (go_at_call 14; ((with_reducible refine (HJC.out _ _ _ HT2.out HW2.out).mono ?_); rintro e w3 ⟨rfl, hb3⟩; have HB3 := Lib.hid (HB2.out.trans (hb3.mono HB2.out.size)); have HE3 := Lib.hid (HE2.out.below hb3); clear hb3))
      | (go_at_call 11; ((with_reducible refine (HPZ.out _ HE3.out).mono ?_); rintro e w4 ⟨hb4, A', c', rfl, ho, hn6⟩; have HB4 := Lib.hid (HB3.out.trans (hb4.mono HB3.out.size)); have HE4 := Lib.hid (HE3.out.below hb4); obtain ⟨g, rfl, hc0⟩ := o_at ho (by decide); have HC4 := Lib.hid (HC.out _ _ _ _ ho); clear hb4 ho hn6 hc0))
      | (go_at_call 11; ((with_reducible refine (scan_no _ _ (by decide) HE4.out big1).mono ?_); rintro e w5 ⟨hb5, rfl⟩; have HB5 := Lib.hid (HB4.out.trans (hb5.mono HB4.out.size)); have HE5 := Lib.hid (HE4.out.below hb5); have HB45 := Lib.hid hb5; clear hb5))
      | (go_at_call 11; ((with_reducible refine (scan_no _ _ (by decide) HE5.out big2).mono ?_); rintro e w6 ⟨hb6, rfl⟩; have HB6 := Lib.hid (HB5.out.trans (hb6.mono HB5.out.size)); have f1 := cell_below hb6 (cell_below HB45.out HC4.out.1); have f2 := cell_below hb6 (cell_below HB45.out HC4.out.2.1); have f3 := cell_below hb6 (cell_below HB45.out HC4.out.2.2); clear hb6)))
    go_ret
    exact ⟨rfl, HB6.out⟩
end Go.Proofs.YtdfjhhhbkgelaaaGreatDoor.V
