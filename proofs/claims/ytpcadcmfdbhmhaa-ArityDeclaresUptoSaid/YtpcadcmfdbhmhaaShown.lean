/- The document's example: it holds. -/
import Derived.Test.YtpcadcmfdbhmhaaOf
namespace Go.Proofs.Ytpcadcmfdbhmhaa.P
open Go.RowKit Go.Proofs.YtpcadcmfdbhmhaaW.PrintWords Go.Proofs.YtpcadcmfdbhmhaaW.PrintLast Go.Proofs.YtpcadcmfdbhmhaaW.PrintMore

/-- A row that lies in a block. -/
theorem C_block {α : Type} {d : Kd α} {W : World} {B : Nat} {t : TypeId} {inner : List Value} {xs : List α} (hb : W.heap[B]? = some (.cells inner.toArray t (0, 0))) (hr : Reps (d.K W) d.sz xs inner) (hm : xs.length ≤ 9223372036854775807) :
    Kd.C d W (some ⟨B, 0, none⟩) xs.length xs := by
  refine ⟨rfl, hm, fun _ => ⟨_, rfl, fun j p hp => ⟨(inner.drop (j * d.sz)).take d.sz, ?_, hr.2 j p hp, fun i u hu => ?_⟩⟩⟩
  · have hj := (List.getElem?_eq_some_iff.1 hp).1
    have h1 : (j + 1) * d.sz ≤ xs.length * d.sz := Nat.mul_le_mul_right _ hj
    rw [Nat.add_mul, Nat.one_mul] at h1
    rw [List.length_take, List.length_drop, hr.1]
    omega
  · have hi : i < ((inner.drop (j * d.sz)).take d.sz).length := (List.getElem?_eq_some_iff.1 hu).1
    rw [List.length_take] at hi
    rw [List.getElem?_take_of_lt (by omega), List.getElem?_drop] at hu
    have := blk_cell hb (j * d.sz + i)
    have ha : (⟨B, 0, none⟩ : Addr).add (j * d.sz + i) = ⟨B, j * d.sz + i, none⟩ := by
      by_cases h0 : j * d.sz + i = 0
      · rw [h0]; rfl
      · unfold Addr.add
        rw [if_neg h0]
        simp
    rw [ha, this]
    simpa using hu

set_option maxRecDepth 100000 in
set_option maxHeartbeats 4000000 in
theorem atom_calls (p : ByteArray) (n : Nat) (hn : n ≤ 10) (w : World) :
    Calls Try.prog 16 #[.string p, .int .i64 n] w fun e w' => ∃ A, e = .returned (.agg #[.string p, .slice A n n]) ∧ Kd.C k52 w' A n (List.replicate n z52) ∧ Below w.heap.size w w' := by
  obtain ⟨i0, hi, hz0, hz1, hz2⟩ := info_parts info52
  have hm := run_make (P := Try.prog) (w.alloc (.cells #[.string ⟨#[]⟩, .slice none 0 0] 43)) 41 52 i0 _ Try.underlying41 hi hz0 .i64 .i64 (n : Int) (n : Int) (by omega) (by omega) (by rw [hz2]; omega) (by omega)
  go_enter Try.func16, Try.ntmps16
  go_wp2
  have hb := blk_new (w.alloc (.cells #[.string p, .slice (some ⟨w.heap.size + 1, 0, none⟩) n n] 43)) (.cells (madeCells #[.bool false, .string ⟨#[]⟩, .bool false, .string ⟨#[]⟩, .int .i64 0] (n * 5)) 52)
  have hb43 := (Below.heap_alloc (w.alloc (.cells #[.string p, .slice (some ⟨w.heap.size + 1, 0, none⟩) n n] 43)) (.cells (madeCells #[.bool false, .string ⟨#[]⟩, .bool false, .string ⟨#[]⟩, .int .i64 0] (n * 5)) 52) w.heap.size (by simp)).trans (blk_new w (.cells #[.string p, .slice (some ⟨w.heap.size + 1, 0, none⟩) n n] 43))
  have c0 := (blk_cell hb43 0).trans rfl
  have c1 := (blk_cell hb43 1).trans rfl
  refine bodyPost_ret (v := .agg #[.string p, .slice (some ⟨w.heap.size + 1, 0, none⟩) n n]) (by simp [results, Try.f16, go_sem, c0, c1]) rfl ⟨_, rfl, ?_, below_alloc (below_alloc (Below.refl _ _) _) _⟩
  rw [World.size_alloc] at hb
  have hr := Kd.reps_made (R := k52.K ((w.alloc (.cells #[.string p, .slice (some ⟨w.heap.size + 1, 0, none⟩) n n] 43)).alloc (.cells (madeCells #[.bool false, .string ⟨#[]⟩, .bool false, .string ⟨#[]⟩, .int .i64 0] (n * 5)) 52))) (z := .agg #[.bool false, .string ⟨#[]⟩, .bool false, .string ⟨#[]⟩, .int .i64 0]) (size := 5) (z0 := z52) rfl (by decide) (k52_mk _ z52) n
  have := C_block (d := k52) (xs := List.replicate n z52) (inner := (madeCells #[.bool false, .string ⟨#[]⟩, .bool false, .string ⟨#[]⟩, .int .i64 0] (n * 5)).toList) (by rw [Array.toArray_toList]; exact hb) hr (by rw [List.length_replicate]; omega)
  rwa [List.length_replicate] at this

/-- The example's rule; its first part. -/
def exHead : S43 := ⟨⟨#[112]⟩, List.replicate 1 z52⟩
def exPos : S54 := ⟨1, ⟨⟨#[113]⟩, List.replicate 2 z52⟩, ⟨#[]⟩, z52, z52⟩
def exNeg : S54 := ⟨2, ⟨⟨#[112]⟩, List.replicate 0 z52⟩, ⟨#[]⟩, z52, z52⟩
theorem ex_clash : arity_Of.f [] [⟨exHead, [exPos, exNeg]⟩] = some ([], 2, 5) := by rfl
theorem ex_fits : arity_Of.f [] [⟨exHead, [exPos]⟩] = some ([⟨⟨#[112]⟩, 1⟩, ⟨⟨#[113]⟩, 2⟩], 0, 0) := by rfl
def lambrequinlaw08_shown.f : Option Bool := some true

set_option maxRecDepth 100000 in
set_option maxHeartbeats 4000000 in
theorem lambrequinlaw08_shown.calls (r : Bool) (w : World) (h : lambrequinlaw08_shown.f = some r) :
    Calls Try.prog 8 #[] w fun e w' => e = .returned (.bool r) ∧ Below w.heap.size w w' := by
  obtain rfl : true = r := by cases h; rfl
  clear h
  go_enter Try.func8, Try.ntmps8
  go_wp2_with fail
  refine (atom_calls _ 1 (by omega) _).mono ?_
  rintro e w1 ⟨A1, rfl, hA1, hb1⟩
  have H1 := Aside0.mk hA1
  have B1 := Aside0.mk hb1
  clear hA1 hb1
  go_wp2_with fail
  refine (atom_calls _ 2 (by omega) _).mono ?_
  rintro e w2 ⟨A2, rfl, hA2, hb2⟩
  have H2 := Aside0.mk hA2
  have B2 := Aside0.mk hb2
  clear hA2 hb2
  go_wp2_with fail
  refine (atom_calls _ 0 (by omega) _).mono ?_
  rintro e w3 ⟨A3, rfl, hA3, hb3⟩
  have H3 := Aside0.mk hA3
  have B3 := Aside0.mk hb3
  clear hA3 hb3
  go_wp2_with fail
  have k54b := ((blk_new w3 (.cells #[.int .i64 1, .string ⟨#[113]⟩, .slice A2 2 2, .string ⟨#[]⟩, .bool false, .string ⟨#[]⟩, .bool false, .string ⟨#[]⟩, .int .i64 0, .bool false, .string ⟨#[]⟩, .bool false, .string ⟨#[]⟩, .int .i64 0, .int .i64 2, .string ⟨#[112]⟩, .slice A3 0 0, .string ⟨#[]⟩, .bool false, .string ⟨#[]⟩, .bool false, .string ⟨#[]⟩, .int .i64 0, .bool false, .string ⟨#[]⟩, .bool false, .string ⟨#[]⟩, .int .i64 0] 54)))
  obtain ⟨M1, hM1⟩ : ∃ M1, w3.alloc (.cells #[.int .i64 1, .string ⟨#[113]⟩, .slice A2 2 2, .string ⟨#[]⟩, .bool false, .string ⟨#[]⟩, .bool false, .string ⟨#[]⟩, .int .i64 0, .bool false, .string ⟨#[]⟩, .bool false, .string ⟨#[]⟩, .int .i64 0, .int .i64 2, .string ⟨#[112]⟩, .slice A3 0 0, .string ⟨#[]⟩, .bool false, .string ⟨#[]⟩, .bool false, .string ⟨#[]⟩, .int .i64 0, .bool false, .string ⟨#[]⟩, .bool false, .string ⟨#[]⟩, .int .i64 0] 54) = M1 := ⟨_, rfl⟩
  have s1 : M1.heap.size = w3.heap.size + 1 := by rw [← hM1]; simp
  have j1 := Aside0.mk (show Below w3.heap.size w3 M1 from by rw [← hM1]; exact below_alloc (Below.refl _ _) _)
  rw [hM1] at k54b ⊢
  clear hM1
  have kT := blk_new M1 (.cells #[.string ⟨#[112]⟩, .slice A1 1 1, .slice (some ⟨w3.heap.size, 0, none⟩) 2 2] 46)
  obtain ⟨M2, hM2⟩ : ∃ M2, M1.alloc (.cells #[.string ⟨#[112]⟩, .slice A1 1 1, .slice (some ⟨w3.heap.size, 0, none⟩) 2 2] 46) = M2 := ⟨_, rfl⟩
  have s2 : M2.heap.size = w3.heap.size + 1 + 1 := by rw [← hM2]; simp [s1]
  have j2 := Aside0.mk (show Below M1.heap.size M1 M2 from by rw [← hM2]; exact below_alloc (Below.refl _ _) _)
  rw [hM2] at kT ⊢
  clear hM2
  have kG := blk_new M2 (.cells #[.string ⟨#[112]⟩, .slice A1 1 1, .slice (some ⟨w3.heap.size, 0, none⟩) 2 2] 46)
  obtain ⟨M3, hM3⟩ : ∃ M3, M2.alloc (.cells #[.string ⟨#[112]⟩, .slice A1 1 1, .slice (some ⟨w3.heap.size, 0, none⟩) 2 2] 46) = M3 := ⟨_, rfl⟩
  have j3 := Aside0.mk (show Below M2.heap.size M2 M3 from by rw [← hM3]; exact below_alloc (Below.refl _ _) _)
  rw [hM3] at kG ⊢
  clear hM3
  rw [s1] at kT
  rw [s2] at kG
  have j13 := Aside0.mk (below_step (below_step j1.out j2.out) j3.out)
  have g11 : Kd.C k52 M1 A1 1 (List.replicate 1 z52) := Kd.C_below (Kd.C_below (Kd.C_below H1.out B2.out) B3.out) j1.out
  have g21 : Kd.C k52 M1 A2 2 (List.replicate 2 z52) := Kd.C_below (Kd.C_below H2.out B3.out) j1.out
  have g31 : Kd.C k52 M1 A3 0 (List.replicate 0 z52) := Kd.C_below H3.out j1.out
  have gL1 : Kd.C k54 M1 (some ⟨w3.heap.size, 0, none⟩) 2 [exPos, exNeg] := C_block (d := k54) (xs := [exPos, exNeg]) (inner := ([.int .i64 1, .string ⟨#[113]⟩, .slice A2 2 2, .string ⟨#[]⟩, .bool false, .string ⟨#[]⟩, .bool false, .string ⟨#[]⟩, .int .i64 0, .bool false, .string ⟨#[]⟩, .bool false, .string ⟨#[]⟩, .int .i64 0, .int .i64 2, .string ⟨#[112]⟩, .slice A3 0 0, .string ⟨#[]⟩, .bool false, .string ⟨#[]⟩, .bool false, .string ⟨#[]⟩, .int .i64 0, .bool false, .string ⟨#[]⟩, .bool false, .string ⟨#[]⟩, .int .i64 0])) k54b
    (Reps.snoc (Reps.snoc (Reps.none _ _) (k54_mk M1 exPos (A2 := A2) (c2 := 2) (Nat.le_refl _) g21) rfl) (k54_mk M1 exNeg (A2 := A3) (c2 := 0) (Nat.le_refl _) g31) rfl) (by simp)
  have k54c := (j3.out.block _ (by omega)).trans ((j2.out.block _ (by omega)).trans k54b)
  have kTc := (j3.out.block _ (by omega)).trans kT
  have g1 : Kd.C k52 M3 A1 1 (List.replicate 1 z52) := Kd.C_below (Kd.C_below (Kd.C_below H1.out B2.out) B3.out) j13.out
  have gL := Kd.C_below gL1 (below_step j2.out j3.out)
  have gG : Kd.C k46 M3 (some ⟨w3.heap.size + 1 + 1, 0, none⟩) 1 [⟨exHead, [exPos, exNeg]⟩] := C_block (d := k46) (xs := [⟨exHead, [exPos, exNeg]⟩]) (inner := ([.string ⟨#[112]⟩, .slice A1 1 1, .slice (some ⟨w3.heap.size, 0, none⟩) 2 2])) kG
    (Reps.snoc (Reps.none _ _) (k46_mk M3 ⟨exHead, [exPos, exNeg]⟩ (A1 := A1) (c1 := 1) (Nat.le_refl _) g1 (A2 := some ⟨w3.heap.size, 0, none⟩) (c2 := 2) (Nat.le_refl _) gL) rfl) (by simp)
  refine (arity_Of.calls none 0 [] _ 1 [⟨exHead, [exPos, exNeg]⟩] _ _ _ M3 (Kd.C_nil _ _) (Nat.le_refl _) gG (Nat.le_refl _) ex_clash).mono ?_
  rintro e w5 ⟨v5, rfl, -, hb5⟩
  have kT5 := (hb5.block _ (Array.getElem?_eq_some_iff.1 kTc).1).trans kTc
  have J5 := Aside0.mk (below_step (below_step (below_step (below_step B1.out B2.out) B3.out) j13.out) hb5)
  have J15 := Aside0.mk (below_step (below_step j2.out j3.out) hb5)
  have hw : w.heap.size ≤ w3.heap.size := Nat.le_trans B1.out.size (Nat.le_trans B2.out.size B3.out.size)
  have KT5 := Aside0.mk kT5
  have GL1 := Aside0.mk gL1
  have G11 := Aside0.mk g11
  have d0 := (blk_cell kT5 0).trans rfl
  have d1 := (blk_cell kT5 1).trans rfl
  have d2 := (blk_cell kT5 2).trans rfl
  have f2 := blk_frozen kT5 2
  have ht := (Array.getElem?_eq_some_iff.1 kT5).1
  clear kT5 hb5 gG gL g1 g11 g21 g31 gL1 k54c kTc kG kT k54b s2 H1 H2 H3 B1 B2 B3 j1 j2 j3 j13
  go_wp2_with fail
  have m1 := Aside0.mk (J15.out.setCell (p := ⟨w3.heap.size + 1, 2, none⟩) (by simp; omega) (.slice (some ⟨w3.heap.size, 0, none⟩) 1 2))
  have m2 := Aside0.mk (J5.out.setCell (p := ⟨w3.heap.size + 1, 2, none⟩) (by simp; omega) (.slice (some ⟨w3.heap.size, 0, none⟩) 1 2))
  obtain ⟨M6, hM6⟩ : ∃ M6, w5.setCell ⟨w3.heap.size + 1, 2, none⟩ (.slice (some ⟨w3.heap.size, 0, none⟩) 1 2) = M6 := ⟨_, rfl⟩
  have s6 : M6.heap.size = w5.heap.size := by rw [← hM6]; simp
  rw [hM6] at m1 m2 ⊢
  clear hM6
  have kH := blk_new M6 (.cells #[.string ⟨#[112]⟩, .slice A1 1 1, .slice (some ⟨w3.heap.size, 0, none⟩) 1 2] 46)
  obtain ⟨M7, hM7⟩ : ∃ M7, M6.alloc (.cells #[.string ⟨#[112]⟩, .slice A1 1 1, .slice (some ⟨w3.heap.size, 0, none⟩) 1 2] 46) = M7 := ⟨_, rfl⟩
  have j7 := Aside0.mk (show Below M6.heap.size M6 M7 from by rw [← hM7]; exact below_alloc (Below.refl _ _) _)
  rw [hM7] at kH ⊢
  clear hM7
  rw [s6] at kH
  have m7 := below_step m1.out j7.out
  have gL7 := Kd.C_take (m := 1) (Kd.C_below GL1.out m7) (by simp)
  have gG7 : Kd.C k46 M7 (some ⟨w5.heap.size, 0, none⟩) 1 [⟨exHead, [exPos]⟩] := C_block (d := k46) (xs := [⟨exHead, [exPos]⟩]) (inner := [.string ⟨#[112]⟩, .slice A1 1 1, .slice (some ⟨w3.heap.size, 0, none⟩) 1 2]) kH
    (Reps.snoc (Reps.none _ _) (k46_mk M7 ⟨exHead, [exPos]⟩ (A1 := A1) (c1 := 1) (Nat.le_refl _) (Kd.C_below G11.out m7) (A2 := some ⟨w3.heap.size, 0, none⟩) (c2 := 2) (by simp) gL7) rfl) (by simp)
  refine (arity_Of.calls none 0 [] _ 1 [⟨exHead, [exPos]⟩] _ _ _ M7 (Kd.C_nil _ _) (Nat.le_refl _) gG7 (Nat.le_refl _) ex_fits).mono ?_
  rintro e w8 ⟨v8, rfl, hR8, hb8⟩
  have J8 := Aside0.mk (below_step (below_step m2.out j7.out) hb8)
  obtain ⟨g, c8, rfl, -⟩ := Kd.R_form hR8 (by simp)
  obtain ⟨A8, c9, hv, hc8, hC8⟩ := Kd.R_reads hR8
  obtain ⟨rfl, -⟩ : some (⟨g, 0, none⟩ : Addr) = A8 ∧ c8 = c9 := by simpa using hv
  obtain ⟨ad, had, e0, e1⟩ := at39k hC8 (k := 1) (by simp)
  obtain rfl : (⟨g, 0, none⟩ : Addr) = ad := by simpa using had
  clear hv had hc8
  clear hC8 hR8 hb8 gG7 gL7 m7 kH m1 m2 J15 J5 KT5 GL1 G11 d0 d1 d2 f2
  have e0' : w8.cell? ⟨g, 2, none⟩ = some (.string ⟨#[113]⟩) := e0
  have e1' : w8.cell? ⟨g, 3, none⟩ = some (.int .i64 2) := e1
  clear e0 e1
  go_wp2_with fail
  go_ret
  exact ⟨rfl, J8.out⟩
end Go.Proofs.Ytpcadcmfdbhmhaa.P
