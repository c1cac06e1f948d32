/- The walk of ValueOrder: whatever the three values, it returns true. -/
import Derived.Test.YtogobiijmdgfdaaDoorShown
import Derived.Test.YtogobiijmdgfdaaDoorLaw
namespace Go.Proofs.YtogobiijmdgfdaaDoor.V
set_option linter.unusedVariables false
open Go.RowKit
set_option linter.unusedSimpArgs false

/-- The cells of a value's box, and what a call leaves of them. -/
structure Box (w : World) (b : Nat) (s : Bool) (t : ByteArray) (n : Int) : Prop where
  lt : b < w.heap.size
  c0 : w.cell? ⟨b, 0, none⟩ = some (.bool s)
  c1 : w.cell? ⟨b, 1, none⟩ = some (.string t)
  c2 : w.cell? ⟨b, 2, none⟩ = some (.int .i64 n)
theorem Box.below {w w' : World} {b : Nat} {s : Bool} {t : ByteArray} {n : Int} (h : Box w b s t n) (hb : Below w.heap.size w w') : Box w' b s t n :=
  ⟨Nat.lt_of_lt_of_le h.lt hb.size, cell_below hb h.c0, cell_below hb h.c1, cell_below hb h.c2⟩
theorem Box.new (w : World) (s : Bool) (t : ByteArray) (n : Int) : Box (w.alloc (.cells #[.bool s, .string t, .int .i64 n] 23)) w.heap.size s t n := by
  have h := heap_alloc_new w (.cells #[.bool s, .string t, .int .i64 n] 23)
  exact ⟨by simp, cell_of_row _ _ 0 _ _ _ h, cell_of_row _ _ 1 _ _ _ h, cell_of_row _ _ 2 _ _ _ h⟩
theorem Box.alloc {w : World} {b : Nat} {s : Bool} {t : ByteArray} {n : Int} (h : Box w b s t n) (o : Obj) : Box (w.alloc o) b s t n := h.below ((Below.refl _ _).alloc (Nat.le_refl _) o)

theorem order_law {x y z : Int} (hx : x = -1 ∨ x = 0 ∨ x = 1) (hy : y = -1 ∨ y = 0 ∨ y = 1) (hz : z = -1 ∨ z = 0 ∨ z = 1)
    (h : (x ≤ 0 → y ≤ 0 → z ≤ 0) ∧ (x < 0 → y < 0 → z < 0) ∧ (x = 0 → y = z)) : (x, y, z) ∈ [((-1 : Int), (-1 : Int), (-1 : Int)), (-1, 0, -1), (-1, 0, 0), (-1, 1, -1), (-1, 1, 0), (-1, 1, 1), (0, -1, -1), (0, 0, 0), (0, 1, 1), (1, -1, -1), (1, -1, 0), (1, -1, 1), (1, 0, -1), (1, 0, 0), (1, 0, 1), (1, 1, -1), (1, 1, 0), (1, 1, 1)] := by
  rcases hx with rfl | rfl | rfl <;> rcases hy with rfl | rfl | rfl <;> rcases hz with rfl | rfl | rfl <;> first | decide | (exfalso; omega)

set_option maxRecDepth 100000 in
set_option maxHeartbeats 8000000 in
theorem order_walk (s : Bool) (t : ByteArray) (n : Int) (s' : Bool) (t' : ByteArray) (n' : Int) (z : Bool) (u : ByteArray) (m : Int) (w : World) (hw : TabW w) :
    Calls Tryd.prog 3 #[.agg #[.bool s, .string t, .int .i64 n], .agg #[.bool s', .string t', .int .i64 n'], .agg #[.bool z, .string u, .int .i64 m]] w fun e w' => e = .returned (.bool true) ∧ Below w.heap.size w w' := by
  have H := order_law (cmpV_vals s t.toList n s' t'.toList n') (cmpV_vals s' t'.toList n' z u.toList m) (cmpV_vals s t.toList n z u.toList m) (cmpV_tri _ _ _ _ _ _ _ _ _)
  have EN := Lib.hid (cmpV_neg s t.toList n s' t'.toList n')
  have ES := Lib.hid (cmpV_self s t.toList n)
  obtain ⟨X, hX⟩ : ∃ X, cmpV s t.toList n s' t'.toList n' = X := ⟨_, rfl⟩
  obtain ⟨Y, hY⟩ : ∃ Y, cmpV s' t'.toList n' z u.toList m = Y := ⟨_, rfl⟩
  obtain ⟨Z, hZ⟩ : ∃ Z, cmpV s t.toList n z u.toList m = Z := ⟨_, rfl⟩
  rw [hX, hY, hZ] at H
  rw [hX] at EN
  have HH := Lib.hid H
  have HX := Lib.hid hX
  have HY := Lib.hid hY
  have HZ := Lib.hid hZ
  clear H hX hY hZ
  obtain ⟨w3, hw3⟩ : ∃ w3, ((w.alloc (.cells #[.bool s, .string t, .int .i64 n] 23)).alloc (.cells #[.bool s', .string t', .int .i64 n'] 23)).alloc (.cells #[.bool z, .string u, .int .i64 m] 23) = w3 := ⟨_, rfl⟩
  have hb3 : Below w.heap.size w w3 := by
    rw [← hw3]
    exact (((Below.refl _ _).alloc (Nat.le_refl _) _).alloc (by simp) _).alloc (by simp; omega) _
  have b1 : Box w3 w.heap.size s t n := by rw [← hw3]; exact ((Box.new _ _ _ _).alloc _).alloc _
  have b2 : Box w3 (w.heap.size + 1) s' t' n' := by rw [← hw3]; have := (Box.new (w.alloc (.cells #[.bool s, .string t, .int .i64 n] 23)) s' t' n').alloc (.cells #[.bool z, .string u, .int .i64 m] 23); simpa using this
  have b3 : Box w3 (w.heap.size + 1 + 1) z u m := by rw [← hw3]; have := Box.new ((w.alloc (.cells #[.bool s, .string t, .int .i64 n] 23)).alloc (.cells #[.bool s', .string t', .int .i64 n'] 23)) z u m; simpa using this
  have HB := Lib.hid (And.intro hb3 (And.intro b1 (And.intro b2 b3)))
  have HW := Lib.hid (hw.below hb3)
  have E3 := Lib.hid hw3
  clear hb3 b1 b2 b3 hw hw3
  go_enter Tryd.func3, Tryd.ntmps3
  go_wp2_with fail
  rw [E3.out]
  refine (shown_calls _ HW.out).mono ?_
  rintro e w4 ⟨rfl, hb⟩
  obtain ⟨hB, b1, b2, b3⟩ := HB.out
  have HB := Lib.hid (And.intro (below_then hB hb hB.size) (And.intro (b1.below hb) (And.intro (b2.below hb) (b3.below hb))))
  clear hB b1 b2 b3 hb
  obtain ⟨hB, ⟨_, a0, a1, a2⟩, ⟨_, b0, b1, b2⟩, ⟨_, c0, c1, c2⟩⟩ := HB.out
  clear hB
  go_wp2_with fail
  refine (compare_calls _ _ _ _ _ _ _).mono ?_
  rintro e w5 ⟨rfl, hb⟩
  rw [HX.out]
  clear a0 a1 a2 b0 b1 b2 c0 c1 c2
  obtain ⟨hB, b1, b2, b3⟩ := HB.out
  have HB := Lib.hid (And.intro (below_then hB hb hB.size) (And.intro (b1.below hb) (And.intro (b2.below hb) (b3.below hb))))
  clear hB b1 b2 b3 hb
  obtain ⟨hB, ⟨_, a0, a1, a2⟩, ⟨_, b0, b1, b2⟩, ⟨_, c0, c1, c2⟩⟩ := HB.out
  clear hB
  go_wp2_with fail
  refine (compare_calls _ _ _ _ _ _ _).mono ?_
  rintro e w6 ⟨rfl, hb⟩
  rw [HY.out]
  clear a0 a1 a2 b0 b1 b2 c0 c1 c2
  obtain ⟨hB, b1, b2, b3⟩ := HB.out
  have HB := Lib.hid (And.intro (below_then hB hb hB.size) (And.intro (b1.below hb) (And.intro (b2.below hb) (b3.below hb))))
  clear hB b1 b2 b3 hb
  obtain ⟨hB, ⟨_, a0, a1, a2⟩, ⟨_, b0, b1, b2⟩, ⟨_, c0, c1, c2⟩⟩ := HB.out
  clear hB
  go_wp2_with fail
  refine (compare_calls _ _ _ _ _ _ _).mono ?_
  rintro e w7 ⟨rfl, hb⟩
  rw [HZ.out]
  clear a0 a1 a2 b0 b1 b2 c0 c1 c2
  obtain ⟨hB, b1, b2, b3⟩ := HB.out
  have HB := Lib.hid (And.intro (below_then hB hb hB.size) (And.intro (b1.below hb) (And.intro (b2.below hb) (b3.below hb))))
  clear hB b1 b2 b3 hb
  obtain ⟨hB, ⟨_, a0, a1, a2⟩, ⟨_, b0, b1, b2⟩, ⟨_, c0, c1, c2⟩⟩ := HB.out
  clear hB
  have h := HH.out
  clear HH HX HY HZ
  simp only [List.mem_cons, List.mem_nil_iff, or_false, Prod.mk.injEq] at h
  rcases h with ⟨rfl, rfl, rfl⟩ | ⟨rfl, rfl, rfl⟩ | ⟨rfl, rfl, rfl⟩ | ⟨rfl, rfl, rfl⟩ | ⟨rfl, rfl, rfl⟩ | ⟨rfl, rfl, rfl⟩ | ⟨rfl, rfl, rfl⟩ | ⟨rfl, rfl, rfl⟩ | ⟨rfl, rfl, rfl⟩ | ⟨rfl, rfl, rfl⟩ | ⟨rfl, rfl, rfl⟩ | ⟨rfl, rfl, rfl⟩ | ⟨rfl, rfl, rfl⟩ | ⟨rfl, rfl, rfl⟩ | ⟨rfl, rfl, rfl⟩ | ⟨rfl, rfl, rfl⟩ | ⟨rfl, rfl, rfl⟩ | ⟨rfl, rfl, rfl⟩
  all_goals
    go_wp2_with fail
    refine (compare_calls _ _ _ _ _ _ _).mono ?_
    rintro e w8 ⟨rfl, hb⟩
    rw [EN.out]
    clear a0 a1 a2 b0 b1 b2 c0 c1 c2
    obtain ⟨hB, b1, b2, b3⟩ := HB.out
    have HB := Lib.hid (And.intro (below_then hB hb hB.size) (And.intro (b1.below hb) (And.intro (b2.below hb) (b3.below hb))))
    clear hB b1 b2 b3 hb
    obtain ⟨hB, ⟨_, a0, a1, a2⟩, ⟨_, b0, b1, b2⟩, ⟨_, c0, c1, c2⟩⟩ := HB.out
    clear hB
    go_wp2_with fail
    refine (compare_calls _ _ _ _ _ _ _).mono ?_
    rintro e w9 ⟨rfl, hb⟩
    rw [ES.out]
    go_wp2_with fail
    go_ret
    exact ⟨rfl, below_then HB.out.1 hb HB.out.1.size⟩
end Go.Proofs.YtogobiijmdgfdaaDoor.V
