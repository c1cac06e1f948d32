/- The document's figures of a number are strconv's. -/
import Derived.Test.YtdfjhhhbkgelaaaGreatDoorBase
import Derived.Test.YtdfjhhhbkgelaaaGreatDoorDig
import Derived.Test.YtdfjhhhbkgelaaaGreatDoorBuild
import Derived.Lib.ItoaLen
import Derived.Deep.RegionWith
namespace Go.Proofs.YtdfjhhhbkgelaaaGreatDoor.V
set_option linter.unusedVariables false
set_option linter.unusedSimpArgs false
open Go.RowKit

def digP (d : Nat) : UInt8 := UInt8.ofNat (48 + d)
theorem digP_val (d : Nat) (h : d < 10) : ((digP d).toNat : Int) = 48 + (d : Int) := by
  unfold digP
  rw [UInt8.toNat_ofNat']
  omega
theorem itoa_nat (u : Nat) : Lib.itoa (u : Int) = Lib.decDigits u := by
  unfold Lib.itoa
  rw [if_neg (by omega)]
  rfl
theorem itoa_negS (u : Nat) (h : 0 < u) : Lib.itoa (-(u : Int)) = 45 :: Lib.decDigits u := by
  unfold Lib.itoa
  rw [if_pos (by omega), Int.natAbs_neg]
  rfl
theorem itoa_pos1 (u : Nat) (h : u < 10) : Lib.itoa (u : Int) = [digP u] := by rw [itoa_nat, dig_eq, if_pos h]; rfl
theorem itoa_pos2 (u : Nat) (h : 10 ≤ u) : Lib.itoa (u : Int) = Lib.itoa ((u / 10 : Nat) : Int) ++ [digP (u % 10)] := by rw [itoa_nat, itoa_nat, dig_eq u, if_neg (by omega)]; rfl
theorem itoa_neg1 (u : Nat) (h0 : 0 < u) (h : u < 10) : Lib.itoa (-(u : Int)) = [45, digP u] := by rw [itoa_negS u h0, dig_eq, if_pos h]; rfl
theorem itoa_neg2 (u : Nat) (h : 10 ≤ u) : Lib.itoa (-(u : Int)) = Lib.itoa (-((u / 10 : Nat) : Int)) ++ [digP (u % 10)] := by rw [itoa_negS u (by omega), itoa_negS (u / 10) (by omega), dig_eq u, if_neg (by omega)]; rfl
theorem string_app (a b : List UInt8) : (⟨a.toArray⟩ : ByteArray) ++ ⟨b.toArray⟩ = ⟨(a ++ b).toArray⟩ := by
  apply ByteArray.ext
  simp [ByteArray.data_append]

theorem conv_at (b : UInt8) (W : World) (G : Nat) (h : W.cell? ⟨G, 0, none⟩ = some (.int .u8 (b.toNat : Int))) : (convert 48 9 (.slice (some ⟨G, 0, none⟩) 1 1)).run Tryz.prog W = .ok (.string ⟨#[b]⟩) W := by
  refine Lib.run_convert_whole (P := Tryz.prog) _ 48 5 9 Tryz.underlying48 Tryz.underlying5 Tryz.underlying9 G 0 ⟨#[b]⟩ (fun i hi => ?_) 1
  have hi' : i < 1 := hi
  obtain rfl : i = 0 := by omega
  exact h

theorem cell_new1 (w : World) (x : Value) : (w.alloc (.cells #[x] 5)).drew.cell? ⟨w.heap.size, 0, none⟩ = some x := cell_of_row _ _ 0 _ _ _ (heap_alloc_new w _)

set_option maxRecDepth 100000 in
set_option maxHeartbeats 4000000 in
theorem fig_calls (N : Nat) : ∀ (n : Int) (w : World), n.natAbs ≤ N → -9223372036854775808 ≤ n → n ≤ 9223372036854775807 →
    Calls Tryz.prog 25 #[.int .i64 n] w fun e w' => e = .returned (.string ⟨(Lib.itoa n).toArray⟩) ∧ Below w.heap.size w w' := by
  induction N using Nat.strongRecOn with
  | _ N ih =>
    intro n w hN h0 h1
    by_cases hs : n < 0
    · have d0 : decide (n < 0) = true := decide_eq_true hs
      obtain ⟨u, hu⟩ : ∃ u : Nat, n = -(u : Int) := ⟨n.natAbs, by omega⟩
      have et : n.tmod 10 = -((u % 10 : Nat) : Int) := by rw [hu, Int.neg_tmod]; rfl
      have eq : n.tdiv 10 = -((u / 10 : Nat) : Int) := by rw [hu, Int.neg_tdiv]; rfl
      have ed : wrap64 (48 - n.tmod 10) % 256 = ((digP (u % 10)).toNat : Int) := by
        rw [et, digP_val _ (by omega)]
        unfold wrap64
        omega
      have hcv := conv_one (digP (u % 10)) w
      clear et
      by_cases hb : u < 10
      · have d1 : decide ((-10 : Int) < n) = true := decide_eq_true (by omega)
        have HE := Lib.hid (show (⟨#[45]⟩ : ByteArray) ++ ⟨#[digP (u % 10)]⟩ = ⟨(Lib.itoa n).toArray⟩ by
          rw [hu, itoa_neg1 u (by omega) hb, Nat.mod_eq_of_lt hb]
          rfl)
        have HB := Lib.hid ((Below.refl w.heap.size w).alloc (Nat.le_refl _) (.cells #[.int .u8 ((digP (u % 10)).toNat : Int)] 5))
        clear hb hs hN h0 h1 eq hu ih
        go_enter Tryz.func25, Tryz.ntmps25
        go_wp2_with fail
        go_ret
        exact ⟨by rw [← HE.out]; rfl, HB.out⟩
      · have d1 : decide ((-10 : Int) < n) = false := decide_eq_false (by omega)
        have hc := ih (u / 10) (by omega) (n.tdiv 10)
        have HC := Lib.hid (fun W => hc W (by omega) (by omega) (by omega))
        have HE := Lib.hid (show (⟨(Lib.itoa (n.tdiv 10)).toArray⟩ : ByteArray) ++ ⟨#[digP (u % 10)]⟩ = ⟨(Lib.itoa n).toArray⟩ by
          rw [eq, hu, itoa_neg2 u (by omega)]
          exact string_app _ [digP (u % 10)])
        have HB := Lib.hid ((Below.refl w.heap.size w).alloc (Nat.le_refl _) (.cells #[.int .u8 ((digP (u % 10)).toNat : Int)] 5))
        have ew : wrap64 (n.tdiv 10) = n.tdiv 10 := by rw [eq]; unfold wrap64; omega
        have hFs : (⟨(Lib.itoa (n.tdiv 10)).toArray⟩ : ByteArray).size ≤ 21 := Lib.itoa_length_le _ (by omega) (by omega)
        obtain ⟨F, hF⟩ : ∃ F, (⟨(Lib.itoa (n.tdiv 10)).toArray⟩ : ByteArray) = F := ⟨_, rfl⟩
        rw [hF] at hFs HC HE
        have hadd : ∀ w, (Op.stringOp .add F ⟨#[digP (u % 10)]⟩).run Tryz.prog w = .ok (.string (F ++ ⟨#[digP (u % 10)]⟩)) w := fun w => run_string_add_sum w _ _ (by have : (⟨#[digP (u % 10)]⟩ : ByteArray).size = 1 := rfl; omega)
        clear hb hs hN h0 h1 hc ih eq hu hF hFs
        go_enter Tryz.func25, Tryz.ntmps25
        go_wp2_with fail
        refine (HC.out _).mono ?_
        rintro e w2 ⟨rfl, hb⟩
        have hb2 := below_then HB.out hb HB.out.size
        go_wp2_with fail
        go_ret
        exact ⟨by rw [← HE.out]; rfl, hb2⟩
    · have d0 : decide (n < 0) = false := decide_eq_false hs
      obtain ⟨u, rfl⟩ : ∃ u : Nat, n = (u : Int) := ⟨n.toNat, by omega⟩
      by_cases hb : u < 10
      · have d1 : decide ((u : Int) < 10) = true := decide_eq_true (by omega)
        have ed : (48 : Int) + (u : Int) = ((digP u).toNat : Int) := (digP_val u hb).symm
        have hcv := conv_one (digP u) w
        have HE := Lib.hid (show (⟨#[digP u]⟩ : ByteArray) = ⟨(Lib.itoa (u : Int)).toArray⟩ by rw [itoa_pos1 u hb])
        have HB := Lib.hid ((Below.refl w.heap.size w).alloc (Nat.le_refl _) (.cells #[.int .u8 ((digP u).toNat : Int)] 5))
        clear hs hN h1 ih h0
        go_enter Tryz.func25, Tryz.ntmps25
        go_wp2_with fail
        go_ret
        exact ⟨by rw [← HE.out]; rfl, HB.out⟩
      · have hu : ∃ n : Int, n = (u : Int) := ⟨_, rfl⟩
        obtain ⟨n, hu⟩ := hu
        rw [← hu] at d0 h0 h1 ⊢
        have d1 : decide (n < 10) = false := decide_eq_false (by omega)
        have et : n.tmod 10 = ((u % 10 : Nat) : Int) := by rw [hu]; rfl
        have eq : n.tdiv 10 = ((u / 10 : Nat) : Int) := by rw [hu]; rfl
        have ed : IntKind.u8.wrap (IntKind.i64.wrap (48 + n.tmod 10)) = ((digP (u % 10)).toNat : Int) := by
          rw [et, digP_val _ (by omega)]
          simp [IntKind.wrap, IntKind.min, IntKind.max, IntKind.bits, IntKind.signed]
          omega
        have hc := ih (u / 10) (by omega) (n.tdiv 10)
        have HC := Lib.hid (fun W => hc W (by omega) (by omega) (by omega))
        have HE := Lib.hid (show (⟨(Lib.itoa (n.tdiv 10)).toArray⟩ : ByteArray) ++ ⟨#[digP (u % 10)]⟩ = ⟨(Lib.itoa n).toArray⟩ by
          rw [eq, hu, itoa_pos2 u (by omega)]
          exact string_app _ [digP (u % 10)])
        have ew : IntKind.i64.wrap (n.tdiv 10) = n.tdiv 10 := by rw [eq]; simp [IntKind.wrap, IntKind.min, IntKind.max, IntKind.bits, IntKind.signed]; omega
        have hcv : ∀ (W : World) (G : Nat), W.cell? ⟨G, 0, none⟩ = some (.int .u8 (IntKind.u8.wrap (IntKind.i64.wrap (48 + n.tmod 10)))) → (convert 48 9 (.slice (some ⟨G, 0, none⟩) 1 1)).run Tryz.prog W = .ok (.string ⟨#[digP (u % 10)]⟩) W := fun W G h => conv_at _ W G (by rw [← ed]; exact h)
        have hcv1 : ∀ (W : World), (convert 48 9 (.slice (some ⟨W.heap.size, 0, none⟩) 1 1)).run Tryz.prog (W.alloc (.cells #[.int .u8 (IntKind.u8.wrap (IntKind.i64.wrap (48 + n.tmod 10)))] 5)) = .ok (.string ⟨#[digP (u % 10)]⟩) (W.alloc (.cells #[.int .u8 (IntKind.u8.wrap (IntKind.i64.wrap (48 + n.tmod 10)))] 5)) := fun W => hcv _ _ (cell_of_row _ _ 0 _ _ _ (heap_alloc_new W _))
        have hcv2 : (convert 48 9 (.slice (some ⟨w.heap.size, 0, none⟩) 1 1)).run Tryz.prog (w.alloc (.cells #[.int .u8 (IntKind.u8.wrap (IntKind.i64.wrap (48 + n.tmod 10)))] 5)).drew = .ok (.string ⟨#[digP (u % 10)]⟩) (w.alloc (.cells #[.int .u8 (IntKind.u8.wrap (IntKind.i64.wrap (48 + n.tmod 10)))] 5)).drew := hcv _ _ (cell_of_row _ _ 0 _ _ _ (heap_alloc_new w _))
        have hcv3 : (convert 48 9 (.slice (some ⟨w.heap.size, 0, none⟩) 1 1)).run Tryz.prog (w.drew.alloc (.cells #[.int .u8 (IntKind.u8.wrap (IntKind.i64.wrap (48 + n.tmod 10)))] 5)) = .ok (.string ⟨#[digP (u % 10)]⟩) (w.drew.alloc (.cells #[.int .u8 (IntKind.u8.wrap (IntKind.i64.wrap (48 + n.tmod 10)))] 5)) := hcv _ _ (cell_of_row _ _ 0 _ _ _ (heap_alloc_new w.drew _))
        have HCV := Lib.hid hcv
        have hFs : (⟨(Lib.itoa (n.tdiv 10)).toArray⟩ : ByteArray).size ≤ 21 := Lib.itoa_length_le _ (by omega) (by omega)
        obtain ⟨F, hF⟩ : ∃ F, (⟨(Lib.itoa (n.tdiv 10)).toArray⟩ : ByteArray) = F := ⟨_, rfl⟩
        rw [hF] at hFs HC HE
        have hadd : ∀ w, (Op.stringOp .add F ⟨#[digP (u % 10)]⟩).run Tryz.prog w = .ok (.string (F ++ ⟨#[digP (u % 10)]⟩)) w := fun w => run_string_add_sum w _ _ (by have : (⟨#[digP (u % 10)]⟩ : ByteArray).size = 1 := rfl; omega)
        clear hb hs hN h0 h1 hc ih eq et hu hF hFs ed
        go_enter Tryz.func25, Tryz.ntmps25
        go_wp2_with fail
        go_region_with (go_at_call 25; (first | rw [ew] | skip); with_reducible refine (HC.out _).mono ?_; rintro e wn ⟨rfl, hbn⟩; (refine (have hn : Below w.heap.size w wn := ?_; ?_); focus (refine below_then' ?_ hbn (Nat.le_refl _); (focus (repeat (first | with_reducible assumption | with_reducible exact Below.refl _ _ | with_reducible apply Below.drew | (with_reducible refine Below.alloc ?_ ?_ _; rotate_left; focus ((first | omega | (simp <;> omega)); done))))); done)); (have hz := hn.size); (first | (refine (have hcell : (convert 48 9 (.slice (some ⟨w.heap.size, 0, none⟩) 1 1)).run Tryz.prog wn = .ok (.string ⟨#[digP (u % 10)]⟩) wn := ?_; ?_); focus (refine HCV.out _ _ (cell_below hbn ?_); with_reducible exact cell_new1 w _; done)) | (have hnone : Below w.drew.heap.size w.drew wn := hbn)))
        all_goals
          go_wp2_with fail
          go_ret
          refine ⟨by rw [← HE.out]; rfl, ?_⟩
          (focus (repeat (first | with_reducible assumption | with_reducible exact Below.refl _ _ | with_reducible apply Below.drew | (with_reducible refine Below.alloc ?_ ?_ _; rotate_left; focus ((first | omega | (simp <;> omega)); done)))))
end Go.Proofs.YtdfjhhhbkgelaaaGreatDoor.V
