/- The walk of SymtabNobody: for every value and every number it returns true, and all that was there lies as it lay. No condition but that values are values. -/
import Derived.Test.YtfdjfkmgablmoaaMeth
namespace Go.Proofs.Ytfdjfkmgablmoaa.Tab
open Go.RowKit Go.Maps Go.Proofs.YtfdjfkmgablmoaaW.PrintWords Go.Proofs.Ytfdjfkmgablmoaa.PSymtabPlays

theorem find_none (base : Nat) (ok : Nat → Prop) (tb : Nat) (x : S29) (w : World) (hT : IsTab w base ok tb []) (hx : Ok x) :
    Calls Try.prog 14 #[.pointer (some ⟨tb, 0, none⟩), .agg #[.bool x.f0, .string x.f1, .int .i64 x.f2]] w fun e w' => e = .returned (.tuple #[.int .i64 0, .bool false]) ∧ Below w.heap.size w w' := by
  have := find_any base ok tb [] x w hT hx
  simpa [idx] using this
theorem at_none (base : Nat) (ok : Nat → Prop) (tb : Nat) (n : Int) (w : World) (hT : IsTab w base ok tb []) :
    Calls Try.prog 12 #[.pointer (some ⟨tb, 0, none⟩), .int .i64 n] w fun e w' => e = .returned (.tuple #[.agg #[.bool false, .string ⟨#[]⟩, .int .i64 0], .bool false]) ∧ Below w.heap.size w w' :=
  at_out base ok tb [] n w hT (by simp; omega)
theorem len_none (base : Nat) (ok : Nat → Prop) (tb : Nat) (w : World) (hT : IsTab w base ok tb []) :
    Calls Try.prog 11 #[.pointer (some ⟨tb, 0, none⟩)] w fun e w' => e = .returned (.int .i64 0) ∧ w = w' := by
  have := len_any base ok tb [] w hT
  simpa using this

set_option maxHeartbeats 4000000 in
set_option maxRecDepth 100000 in
theorem nobody_walk (x : S29) (n : Int) (w : World) (hx : Ok x) : Calls Try.prog 7 #[.agg #[.bool x.f0, .string x.f1, .int .i64 x.f2], .int .i64 n] w (ShownPost w) := by
  go_enter Try.func7, Try.ntmps7
  go_wp2_with fail
  refine (shown_any _).mono ?_
  rintro e w1 ⟨rfl, hb1⟩
  have HB1 := Aside0.mk (below_step (below_alloc (Below.refl w.heap.size w) _) hb1)
  have HK1 := Aside0.mk (blk_below (blk_new w _) hb1)
  have b0 : w1.cell? ⟨w.heap.size, 0, none⟩ = some (.bool x.f0) := (blk_cell HK1.out 0).trans rfl
  have b1 : w1.cell? ⟨w.heap.size, 1, none⟩ = some (.string x.f1) := (blk_cell HK1.out 1).trans rfl
  have b2 : w1.cell? ⟨w.heap.size, 2, none⟩ = some (.int .i64 x.f2) := (blk_cell HK1.out 2).trans rfl
  clear hb1
  go_wp2_with fail
  refine (find_nil x _).mono ?_
  rintro e w2 ⟨rfl, hb2⟩
  have HB2 := Aside0.mk (below_step HB1.out hb2)
  have HK2 := Aside0.mk (blk_below HK1.out hb2)
  clear hb2 b0 b1 b2
  go_wp2_with fail
  refine (at_nil n _).mono ?_
  rintro e w3 ⟨rfl, hb3⟩
  have HB3 := Aside0.mk (below_step HB2.out hb3)
  have HK3 := Aside0.mk (blk_below HK2.out hb3)
  clear hb3
  go_wp2_with fail
  refine (new_any w w.heap.size _ (below_alloc HB3.out _) (by have := HB3.out.size; simp; omega)).mono ?_
  rintro e w4 ⟨tb, rfl, hT4, hB4, hb4⟩
  have HB4 := Aside0.mk hB4
  have HT4 := Aside0.mk hT4
  have HK4 := Aside0.mk (blk_below (blk_alloc HK3.out _) hb4)
  have b0 : w4.cell? ⟨w.heap.size, 0, none⟩ = some (.bool x.f0) := (blk_cell HK4.out 0).trans rfl
  have b1 : w4.cell? ⟨w.heap.size, 1, none⟩ = some (.string x.f1) := (blk_cell HK4.out 1).trans rfl
  have b2 : w4.cell? ⟨w.heap.size, 2, none⟩ = some (.int .i64 x.f2) := (blk_cell HK4.out 2).trans rfl
  clear hT4 hB4 hb4
  go_wp2_with fail
  refine (find_none _ _ tb x _ HT4.out hx).mono ?_
  rintro e w5 ⟨rfl, hb5⟩
  have HB5 := Aside0.mk (below_step HB4.out hb5)
  have HT5 := Aside0.mk (HT4.out.below hb5)
  have HK5 := Aside0.mk (blk_below HK4.out hb5)
  clear hb5 b0 b1 b2
  go_wp2_with fail
  refine (at_none _ _ tb n _ HT5.out).mono ?_
  rintro e w6 ⟨rfl, hb6⟩
  have HB6 := Aside0.mk (below_alloc (below_step HB5.out hb6) (.cells #[.bool false, .string ⟨#[]⟩, .int .i64 0] 29))
  have HT6 := Aside0.mk ((HT5.out.below hb6).below (below_alloc (Below.refl _ _) (.cells #[.bool false, .string ⟨#[]⟩, .int .i64 0] 29)))
  have K6 := blk_alloc (blk_below HK5.out hb6) (.cells #[.bool false, .string ⟨#[]⟩, .int .i64 0] 29)
  have b0 := (blk_cell K6 0).trans rfl
  have b1 := (blk_cell K6 1).trans rfl
  have b2 := (blk_cell K6 2).trans rfl
  clear hb6 K6
  go_wp2_with fail
  refine (put_nil x _).mono ?_
  rintro e w7 ⟨rfl, hb7⟩
  have HB7 := Aside0.mk (below_step HB6.out hb7)
  have HT7 := Aside0.mk (HT6.out.below hb7)
  clear hb7
  go_wp2_with fail
  refine (len_nil _).mono ?_
  rintro e w' ⟨rfl, rfl⟩
  go_wp2_with fail
  refine (len_none _ _ tb _ HT7.out).mono ?_
  rintro e w' ⟨rfl, rfl⟩
  go_wp2
  go_ret
  exact ⟨rfl, HB7.out⟩
end Go.Proofs.Ytfdjfkmgablmoaa.Tab
