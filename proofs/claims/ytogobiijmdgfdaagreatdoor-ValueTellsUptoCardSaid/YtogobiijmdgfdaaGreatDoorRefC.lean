/- The document's Compare, Same, Holds. -/
import Derived.Test.YtogobiijmdgfdaaGreatDoorRef
import Derived.Test.YtogobiijmdgfdaaGreatDoorHolds
namespace Go.Proofs.YtogobiijmdgfdaaGreatDoor.V
set_option linter.unusedVariables false
set_option linter.unusedSimpArgs false
open Go.RowKit

set_option maxRecDepth 100000 in
set_option maxHeartbeats 8000000 in
theorem refCompare_calls (s : Bool) (t : ByteArray) (n : Int) (s' : Bool) (t' : ByteArray) (n' : Int) (w : World) (ht : t.size ≤ 1048576) (ht' : t'.size ≤ 1048576) :
    Calls Tryz.prog 9 #[.agg #[.bool s, .string t, .int .i64 n], .agg #[.bool s', .string t', .int .i64 n']] w fun e w' => e = .returned (.int .i64 (cmpV s t.toList n s' t'.toList n')) ∧ Below w.heap.size w w' := by
  have HB := Lib.hid (((Below.refl w.heap.size w).alloc (Nat.le_refl _) (.cells #[.bool s, .string t, .int .i64 n] 23)).alloc (by simp) (.cells #[.bool s', .string t', .int .i64 n'] 23))
  have HT := Lib.hid (And.intro ht ht')
  clear ht ht'
  cases s <;> cases s'
  · rcases cmpN_cases n n' with ⟨h, e⟩ | ⟨h, e⟩ | ⟨h, e⟩
    · have h1 : decide (n < n') = true := decide_eq_true h
      have HE := Lib.hid (show cmpV false t.toList n false t'.toList n' = -1 from e)
      clear e h
      go_enter Tryz.func9, Tryz.ntmps9
      go_wp2_with fail
      go_ret
      exact ⟨by rw [HE.out]; rfl, HB.out⟩
    · have h1 : decide (n < n') = false := decide_eq_false (by omega)
      have h2 : decide (n' < n) = false := decide_eq_false (by omega)
      have HE := Lib.hid (show cmpV false t.toList n false t'.toList n' = 0 from e)
      clear e h
      go_enter Tryz.func9, Tryz.ntmps9
      go_wp2_with fail
      go_ret
      exact ⟨by rw [HE.out]; rfl, HB.out⟩
    · have h1 : decide (n < n') = false := decide_eq_false (by omega)
      have h2 : decide (n' < n) = true := decide_eq_true h
      have HE := Lib.hid (show cmpV false t.toList n false t'.toList n' = 1 from e)
      clear e h
      go_enter Tryz.func9, Tryz.ntmps9
      go_wp2_with fail
      go_ret
      exact ⟨by rw [HE.out]; rfl, HB.out⟩
  · go_enter Tryz.func9, Tryz.ntmps9
    go_wp2_with fail
    go_ret
    exact ⟨rfl, HB.out⟩
  · go_enter Tryz.func9, Tryz.ntmps9
    go_wp2_with fail
    go_ret
    exact ⟨rfl, HB.out⟩
  · go_enter Tryz.func9, Tryz.ntmps9
    go_wp2_with fail
    refine (texts_calls _ _ _ HT.out.1 HT.out.2).mono ?_
    rintro e w2 ⟨rfl, hb⟩
    have hb' := below_then HB.out hb HB.out.size
    go_wp2_with fail
    go_ret
    exact ⟨rfl, hb'⟩

theorem refSame_calls (s : Bool) (t : ByteArray) (n : Int) (s' : Bool) (t' : ByteArray) (n' : Int) (w : World) (ht : t.size ≤ 1048576) (ht' : t'.size ≤ 1048576) :
    Calls Tryz.prog 11 #[.agg #[.bool s, .string t, .int .i64 n], .agg #[.bool s', .string t', .int .i64 n']] w fun e w' => e = .returned (.bool (same s t.toList n s' t'.toList n')) ∧ Below w.heap.size w w' := by
  have HB := Lib.hid (((Below.refl w.heap.size w).alloc (Nat.le_refl _) (.cells #[.bool s, .string t, .int .i64 n] 23)).alloc (by simp) (.cells #[.bool s', .string t', .int .i64 n'] 23))
  have HT := Lib.hid (And.intro ht ht')
  clear ht ht'
  go_enter Tryz.func11, Tryz.ntmps11
  go_wp2_with fail
  refine (refCompare_calls _ _ _ _ _ _ _ HT.out.1 HT.out.2).mono ?_
  rintro e w2 ⟨rfl, hb⟩
  have hb' := below_then HB.out hb HB.out.size
  go_wp2_with fail
  go_ret
  exact ⟨rfl, hb'⟩
end Go.Proofs.YtogobiijmdgfdaaGreatDoor.V
