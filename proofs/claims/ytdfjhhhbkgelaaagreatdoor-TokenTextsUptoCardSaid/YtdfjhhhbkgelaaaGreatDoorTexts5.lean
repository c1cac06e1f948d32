/- The document's Join, and lambrequinlaw05.TokenTexts. -/
import Derived.Test.YtdfjhhhbkgelaaaGreatDoorShow5
import Derived.Test.YtdfjhhhbkgelaaaGreatDoorRefT
namespace Go.Proofs.YtdfjhhhbkgelaaaGreatDoor.V
set_option linter.unusedVariables false
set_option linter.unusedSimpArgs false
open Go.RowKit

theorem out_step {L : List GT} {j : Nat} {t : GT} {T : ByteArray} (h : L[j]? = some t) (hT : bs t.told = T) : (bs (joinG (L.take j)) ++ T) ++ ⟨#[32]⟩ = bs (joinG (L.take (j + 1))) := by
  rw [joinG_snoc h, ← List.append_assoc, ← bs_append, ← bs_append, hT]
  rfl
theorem bs_self (s : ByteArray) : bs s.data.toList = s := of_bytes s
theorem marks_out (O s : ByteArray) : ((O ++ ⟨#[39]⟩) ++ s) ++ ⟨#[39]⟩ = O ++ bs (39 :: s.data.toList ++ [39]) := by
  have h39 : (⟨#[39]⟩ : ByteArray) = bs [39] := rfl
  conv => lhs; rw [← bs_self O, ← bs_self s, h39, bs_append, bs_append, bs_append]
  conv => rhs; rw [← bs_self O, bs_append]
  congr 1
  simp
theorem joinG_few (L : List GT) (h : ∀ t ∈ L, t.s.size ≤ 1048576 ∧ -9223372036854775808 ≤ t.n ∧ t.n ≤ 9223372036854775807) : (joinG L).length ≤ L.length * 2097200 := by
  induction L with
  | nil => simp [joinG]
  | cons t L ih =>
    have h1 := ih fun x hx => h x (List.mem_cons_of_mem _ hx)
    have h2 := h t (List.mem_cons_self ..)
    have h3 := toldL_size t.k t.s.data.toList t.n t.q h2.2.1 h2.2.2
    have h4 : t.s.data.toList.length = t.s.size := by simp
    have h6 : (t.told ++ [32]).length = t.told.length + 1 := by simp
    rw [joinG, List.flatMap_cons, List.length_append, ← joinG, List.length_cons, h6]
    have h5 : t.told.length ≤ 2 * t.s.size + 21 := by rw [← h4]; exact h3
    omega

set_option maxRecDepth 100000 in
set_option maxHeartbeats 16000000 in
theorem rjoin_calls (A : Option Addr) (n c : Nat) (L : List GT) (w : World) (hn : n = L.length) (hT : ToksAt w A L) (hok : ∀ t ∈ L, t.s.size ≤ 1048576 ∧ -9223372036854775808 ≤ t.n ∧ t.n ≤ 9223372036854775807) (hn2 : n ≤ 2000) :
    Calls Tryz.prog 15 #[.slice A n c] w fun e w' => e = .returned (.string (bs (joinG L))) ∧ Below w.heap.size w w' := by
  have HT := Lib.hid hT
  have HOK := Lib.hid hok
  have HN := Lib.hid hn
  have HBIG := Lib.hid (show (joinG L).length ≤ 5000000000 from by have := joinG_few L hok; omega)
  clear hT hok hn
  go_enter Tryz.func15, Tryz.ntmps15
  go_wp2_with fail
  go_loopw [4, 3] (fun i out wr => ∃ k : Nat, k ≤ n ∧ i = .int .i64 (k : Int) ∧ out = .string (bs (joinG (L.take k))) ∧ Below w.heap.size w wr) (fun i _ _ => n + 1 - (intOf i).toNat)
  case atStart => exact ⟨0, Nat.zero_le _, rfl, rfl, Below.refl _ _⟩
  case round =>
    obtain ⟨j, hj, rfl, rfl, hb⟩ := hrel
    have HB := Lib.hid hb
    by_cases hlt : j < n
    · have hd : decide ((j : Int) < (n : Int)) = true := decide_eq_true (by omega)
      obtain ⟨t, hx⟩ : ∃ t, L[j]? = some t := ⟨_, List.getElem?_eq_getElem (by rw [← HN.out]; exact hlt)⟩
      obtain ⟨a, rfl, hh⟩ := HT.out j t hx
      have hh2 := hh.below hb
      have hgt := HOK.out t (List.mem_of_getElem? hx)
      have hst := fun T => out_step (T := T) hx
      have hos : (bs (joinG (L.take j))).size ≤ 5000000000 := by rw [bs_size]; exact Nat.le_trans (joinG_le L j) HBIG.out
      obtain ⟨O, hO⟩ : ∃ O, bs (joinG (L.take j)) = O := ⟨_, rfl⟩
      rw [hO] at hos
      simp only [hO] at hst
      rw [hO]
      obtain ⟨tk, ts, tn, tq, tp⟩ := t
      dsimp only at hgt
      have d0 := hh2.c0
      have d1 := hh2.c1
      have d2 := hh2.c2
      have d3 := hh2.c3
      have d4 := hh2.c4
      have HST := Lib.hid hst
      have HTS := Lib.hid (toldL_size tk ts.data.toList tn tq hgt.2.1 hgt.2.2)
      have h01 : (⟨#[39]⟩ : ByteArray).size = 1 := rfl
      have h02 : (⟨#[32]⟩ : ByteArray).size = 1 := rfl
      have h03 : (⟨#[110, 111, 116]⟩ : ByteArray).size = 3 := rfl
      have HG := Lib.hid hgt
      have hts := hgt.1
      have HPL := Lib.hid (fun W => refPlain_calls ts W hts)
      clear hb hh hh2 hgt hx hst hO
      by_cases hk : tk = 1
      · subst hk
        cases hp : plainL ts.data.toList with
        | true =>
          have hpp := Lib.hid hp
          cases tq with
          | false =>
            have HE := Lib.hid (show bs (GT.told ⟨1, ts, tn, false, tp⟩) = ts from by unfold GT.told toldL; rw [if_neg (by simp), if_neg (by simp [hp]), if_neg (by simp), if_neg (by simp)]; exact bs_self ts)
            have hadd1 : ∀ w, (Op.stringOp .add O ts).run Tryz.prog w = .ok (.string (O ++ ts)) w := fun w => run_string_add_sum w _ _ (by omega)
            have hadd2 : ∀ w, (Op.stringOp .add (O ++ ts) ⟨#[32]⟩).run Tryz.prog w = .ok (.string ((O ++ ts) ++ ⟨#[32]⟩)) w := fun w => run_string_add_sum w _ _ (by simp only [ByteArray.size_append]; omega)
            clear hp
            go_wp2_with (first
              | (go_at_call 23; ((with_reducible refine (HPL.out _).mono ?_); rw [hpp.out]; rintro e w2 ⟨rfl, hb2⟩; have e0 := cell_below hb2 (cell_of_row (wr.alloc (.cells #[.int .i64 1, .string ts, .int .i64 tn, .bool false, .int .i64 tp] 35)) wr.heap.size 0 _ _ _ (heap_alloc_new wr _)); have e1 := cell_below hb2 (cell_of_row (wr.alloc (.cells #[.int .i64 1, .string ts, .int .i64 tn, .bool false, .int .i64 tp] 35)) wr.heap.size 1 _ _ _ (heap_alloc_new wr _)); have e2 := cell_below hb2 (cell_of_row (wr.alloc (.cells #[.int .i64 1, .string ts, .int .i64 tn, .bool false, .int .i64 tp] 35)) wr.heap.size 2 _ _ _ (heap_alloc_new wr _)); have e3 := cell_below hb2 (cell_of_row (wr.alloc (.cells #[.int .i64 1, .string ts, .int .i64 tn, .bool false, .int .i64 tp] 35)) wr.heap.size 3 _ _ _ (heap_alloc_new wr _)); have HB2 := Lib.hid ((HB.out.alloc HB.out.size (.cells #[.int .i64 1, .string ts, .int .i64 tn, .bool false, .int .i64 tp] 35)).trans (hb2.mono (Nat.le_trans HB.out.size (by simp)))); clear hb2)))
            go_roundw
            case rel => exact ⟨j + 1, hlt, by simp, by rw [HST.out _ HE.out], HB2.out⟩
            case measure => (simp [intOf] <;> omega)
          | true =>
            have HE := Lib.hid (show bs (GT.told ⟨1, ts, tn, true, tp⟩) = bs (39 :: ts.data.toList ++ [39]) from by unfold GT.told toldL; rw [if_pos ⟨rfl, hp, rfl⟩])
            have hadd1 : ∀ w, (Op.stringOp .add O ⟨#[39]⟩).run Tryz.prog w = .ok (.string (O ++ ⟨#[39]⟩)) w := fun w => run_string_add_sum w _ _ (by omega)
            have hadd2 : ∀ w, (Op.stringOp .add (O ++ ⟨#[39]⟩) ts).run Tryz.prog w = .ok (.string ((O ++ ⟨#[39]⟩) ++ ts)) w := fun w => run_string_add_sum w _ _ (by simp only [ByteArray.size_append]; omega)
            have hadd3 : ∀ w, (Op.stringOp .add ((O ++ ⟨#[39]⟩) ++ ts) ⟨#[39]⟩).run Tryz.prog w = .ok (.string (((O ++ ⟨#[39]⟩) ++ ts) ++ ⟨#[39]⟩)) w := fun w => run_string_add_sum w _ _ (by simp only [ByteArray.size_append]; omega)
            have hadd4 : ∀ w, (Op.stringOp .add (((O ++ ⟨#[39]⟩) ++ ts) ++ ⟨#[39]⟩) ⟨#[32]⟩).run Tryz.prog w = .ok (.string ((((O ++ ⟨#[39]⟩) ++ ts) ++ ⟨#[39]⟩) ++ ⟨#[32]⟩)) w := fun w => run_string_add_sum w _ _ (by simp only [ByteArray.size_append]; omega)
            clear hp
            go_wp2_with (first
              | (go_at_call 23; ((with_reducible refine (HPL.out _).mono ?_); rw [hpp.out]; rintro e w2 ⟨rfl, hb2⟩; have e0 := cell_below hb2 (cell_of_row (wr.alloc (.cells #[.int .i64 1, .string ts, .int .i64 tn, .bool true, .int .i64 tp] 35)) wr.heap.size 0 _ _ _ (heap_alloc_new wr _)); have e1 := cell_below hb2 (cell_of_row (wr.alloc (.cells #[.int .i64 1, .string ts, .int .i64 tn, .bool true, .int .i64 tp] 35)) wr.heap.size 1 _ _ _ (heap_alloc_new wr _)); have e2 := cell_below hb2 (cell_of_row (wr.alloc (.cells #[.int .i64 1, .string ts, .int .i64 tn, .bool true, .int .i64 tp] 35)) wr.heap.size 2 _ _ _ (heap_alloc_new wr _)); have e3 := cell_below hb2 (cell_of_row (wr.alloc (.cells #[.int .i64 1, .string ts, .int .i64 tn, .bool true, .int .i64 tp] 35)) wr.heap.size 3 _ _ _ (heap_alloc_new wr _)); have HB2 := Lib.hid ((HB.out.alloc HB.out.size (.cells #[.int .i64 1, .string ts, .int .i64 tn, .bool true, .int .i64 tp] 35)).trans (hb2.mono (Nat.le_trans HB.out.size (by simp)))); clear hb2)))
            go_roundw
            case rel => exact ⟨j + 1, hlt, by simp, by rw [marks_out, HST.out _ HE.out], HB2.out⟩
            case measure => (simp [intOf] <;> omega)
        | false =>
          have hpp := Lib.hid hp
          cases hn : (ts.toList == [110, 111, 116]) with
          | true =>
            have hn2 : ts.data.toList = [110, 111, 116] := by rw [← ByteArray.toList_eq]; simpa using hn
            cases tq with
            | false =>
              have HE := Lib.hid (show bs (GT.told ⟨1, ts, tn, false, tp⟩) = ⟨#[110, 111, 116]⟩ from by unfold GT.told toldL; rw [if_neg (by simp), if_pos ⟨rfl, hp⟩, if_pos ⟨hn2, rfl⟩, hn2]; rfl)
              have hadd1 : ∀ w, (Op.stringOp .add O ⟨#[110, 111, 116]⟩).run Tryz.prog w = .ok (.string (O ++ ⟨#[110, 111, 116]⟩)) w := fun w => run_string_add_sum w _ _ (by omega)
              have hadd2 : ∀ w, (Op.stringOp .add (O ++ ⟨#[110, 111, 116]⟩) ⟨#[32]⟩).run Tryz.prog w = .ok (.string ((O ++ ⟨#[110, 111, 116]⟩) ++ ⟨#[32]⟩)) w := fun w => run_string_add_sum w _ _ (by simp only [ByteArray.size_append]; omega)
              clear hp hn2
              go_wp2_with (first
                | (go_at_call 23; ((with_reducible refine (HPL.out _).mono ?_); rw [hpp.out]; rintro e w2 ⟨rfl, hb2⟩; have e0 := cell_below hb2 (cell_of_row (wr.alloc (.cells #[.int .i64 1, .string ts, .int .i64 tn, .bool false, .int .i64 tp] 35)) wr.heap.size 0 _ _ _ (heap_alloc_new wr _)); have e1 := cell_below hb2 (cell_of_row (wr.alloc (.cells #[.int .i64 1, .string ts, .int .i64 tn, .bool false, .int .i64 tp] 35)) wr.heap.size 1 _ _ _ (heap_alloc_new wr _)); have e2 := cell_below hb2 (cell_of_row (wr.alloc (.cells #[.int .i64 1, .string ts, .int .i64 tn, .bool false, .int .i64 tp] 35)) wr.heap.size 2 _ _ _ (heap_alloc_new wr _)); have e3 := cell_below hb2 (cell_of_row (wr.alloc (.cells #[.int .i64 1, .string ts, .int .i64 tn, .bool false, .int .i64 tp] 35)) wr.heap.size 3 _ _ _ (heap_alloc_new wr _)); have HB2 := Lib.hid ((HB.out.alloc HB.out.size (.cells #[.int .i64 1, .string ts, .int .i64 tn, .bool false, .int .i64 tp] 35)).trans (hb2.mono (Nat.le_trans HB.out.size (by simp)))); clear hb2)))
              go_roundw
              case rel => exact ⟨j + 1, hlt, by simp, by rw [HST.out _ HE.out], HB2.out⟩
              case measure => (simp [intOf] <;> omega)
            | true =>
              have HE := Lib.hid (show bs (GT.told ⟨1, ts, tn, true, tp⟩) = bs (textL true ts.data.toList 0) from by unfold GT.told toldL; rw [if_neg (by simp [hp]), if_pos ⟨rfl, hp⟩, if_neg (by simp)])
              have HTX := Lib.hid (fun W => (show Calls Tryz.prog 24 #[.agg #[.bool true, .string ts, .int .i64 0]] W (fun e w' => e = .returned (.string (bs (textL true ts.data.toList 0))) ∧ Below W.heap.size W w') from refText_calls true ts 0 W hts (by decide) (by decide)))
              obtain ⟨E, hE⟩ : ∃ E, bs (textL true ts.data.toList 0) = E := ⟨_, rfl⟩
              have hEs : E.size ≤ 2100000 := by
                rw [← hE, bs_size]
                have h1 := escL_le2 ts.data.toList
                have h2 : ts.data.toList.length = ts.size := by simp
                unfold textL
                simp only
                split
                · omega
                · simp only [List.length_cons, List.length_append, List.length_nil]; omega
              rw [hE] at HTX HE
              have hadd1 : ∀ w, (Op.stringOp .add O E).run Tryz.prog w = .ok (.string (O ++ E)) w := fun w => run_string_add_sum w _ _ (by omega)
              have hadd2 : ∀ w, (Op.stringOp .add (O ++ E) ⟨#[32]⟩).run Tryz.prog w = .ok (.string ((O ++ E) ++ ⟨#[32]⟩)) w := fun w => run_string_add_sum w _ _ (by simp only [ByteArray.size_append]; omega)
              clear hp hE
              go_wp2_with (first
                | (go_at_call 23; ((with_reducible refine (HPL.out _).mono ?_); rw [hpp.out]; rintro e w2 ⟨rfl, hb2⟩; have e0 := cell_below hb2 (cell_of_row (wr.alloc (.cells #[.int .i64 1, .string ts, .int .i64 tn, .bool true, .int .i64 tp] 35)) wr.heap.size 0 _ _ _ (heap_alloc_new wr _)); have e1 := cell_below hb2 (cell_of_row (wr.alloc (.cells #[.int .i64 1, .string ts, .int .i64 tn, .bool true, .int .i64 tp] 35)) wr.heap.size 1 _ _ _ (heap_alloc_new wr _)); have e2 := cell_below hb2 (cell_of_row (wr.alloc (.cells #[.int .i64 1, .string ts, .int .i64 tn, .bool true, .int .i64 tp] 35)) wr.heap.size 2 _ _ _ (heap_alloc_new wr _)); have e3 := cell_below hb2 (cell_of_row (wr.alloc (.cells #[.int .i64 1, .string ts, .int .i64 tn, .bool true, .int .i64 tp] 35)) wr.heap.size 3 _ _ _ (heap_alloc_new wr _)); have HB2 := Lib.hid ((HB.out.alloc HB.out.size (.cells #[.int .i64 1, .string ts, .int .i64 tn, .bool true, .int .i64 tp] 35)).trans (hb2.mono (Nat.le_trans HB.out.size (by simp)))); clear hb2))
                | (go_at_call 24; ((with_reducible refine (HTX.out _).mono ?_); rintro e w3 ⟨rfl, hb3⟩; have HB3 := Lib.hid (HB2.out.trans (hb3.mono HB2.out.size)); clear hb3)))
              go_roundw
              case rel => exact ⟨j + 1, hlt, by simp, by rw [HST.out _ HE.out], HB3.out⟩
              case measure => (simp [intOf] <;> omega)
          | false =>
            have hn2 : ¬ ts.data.toList = [110, 111, 116] := by rw [← ByteArray.toList_eq]; simpa using hn
            have HE := Lib.hid (show bs (GT.told ⟨1, ts, tn, tq, tp⟩) = bs (textL true ts.data.toList 0) from by unfold GT.told toldL; rw [if_neg (by simp [hp]), if_pos ⟨rfl, hp⟩, if_neg (fun h => hn2 h.1)])
            have HTX := Lib.hid (fun W => (show Calls Tryz.prog 24 #[.agg #[.bool true, .string ts, .int .i64 0]] W (fun e w' => e = .returned (.string (bs (textL true ts.data.toList 0))) ∧ Below W.heap.size W w') from refText_calls true ts 0 W hts (by decide) (by decide)))
            obtain ⟨E, hE⟩ : ∃ E, bs (textL true ts.data.toList 0) = E := ⟨_, rfl⟩
            have hEs : E.size ≤ 2100000 := by
              rw [← hE, bs_size]
              have h1 := escL_le2 ts.data.toList
              have h2 : ts.data.toList.length = ts.size := by simp
              unfold textL
              simp only
              split
              · omega
              · simp only [List.length_cons, List.length_append, List.length_nil]; omega
            rw [hE] at HTX HE
            have hadd1 : ∀ w, (Op.stringOp .add O E).run Tryz.prog w = .ok (.string (O ++ E)) w := fun w => run_string_add_sum w _ _ (by omega)
            have hadd2 : ∀ w, (Op.stringOp .add (O ++ E) ⟨#[32]⟩).run Tryz.prog w = .ok (.string ((O ++ E) ++ ⟨#[32]⟩)) w := fun w => run_string_add_sum w _ _ (by simp only [ByteArray.size_append]; omega)
            clear hp hE
            go_wp2_with (first
              | (go_at_call 23; ((with_reducible refine (HPL.out _).mono ?_); rw [hpp.out]; rintro e w2 ⟨rfl, hb2⟩; have e0 := cell_below hb2 (cell_of_row (wr.alloc (.cells #[.int .i64 1, .string ts, .int .i64 tn, .bool tq, .int .i64 tp] 35)) wr.heap.size 0 _ _ _ (heap_alloc_new wr _)); have e1 := cell_below hb2 (cell_of_row (wr.alloc (.cells #[.int .i64 1, .string ts, .int .i64 tn, .bool tq, .int .i64 tp] 35)) wr.heap.size 1 _ _ _ (heap_alloc_new wr _)); have e2 := cell_below hb2 (cell_of_row (wr.alloc (.cells #[.int .i64 1, .string ts, .int .i64 tn, .bool tq, .int .i64 tp] 35)) wr.heap.size 2 _ _ _ (heap_alloc_new wr _)); have e3 := cell_below hb2 (cell_of_row (wr.alloc (.cells #[.int .i64 1, .string ts, .int .i64 tn, .bool tq, .int .i64 tp] 35)) wr.heap.size 3 _ _ _ (heap_alloc_new wr _)); have HB2 := Lib.hid ((HB.out.alloc HB.out.size (.cells #[.int .i64 1, .string ts, .int .i64 tn, .bool tq, .int .i64 tp] 35)).trans (hb2.mono (Nat.le_trans HB.out.size (by simp)))); clear hb2))
              | (go_at_call 24; ((with_reducible refine (HTX.out _).mono ?_); rintro e w3 ⟨rfl, hb3⟩; have HB3 := Lib.hid (HB2.out.trans (hb3.mono HB2.out.size)); clear hb3)))
            go_roundw
            case rel => exact ⟨j + 1, hlt, by simp, by rw [HST.out _ HE.out], HB3.out⟩
            case measure => (simp [intOf] <;> omega)
      · have hk1 : (tk == 1) = false := by simpa using hk
        by_cases hk24 : tk = 2 ∨ tk = 4
        · rcases hk24 with rfl | rfl
          · have HE := Lib.hid (show bs (GT.told ⟨2, ts, tn, tq, tp⟩) = ts from by unfold GT.told toldL; rw [if_neg (by simp), if_neg (by simp), if_neg (by simp), if_neg (by simp)]; exact bs_self ts)
            have hadd1 : ∀ w, (Op.stringOp .add O ts).run Tryz.prog w = .ok (.string (O ++ ts)) w := fun w => run_string_add_sum w _ _ (by omega)
            have hadd2 : ∀ w, (Op.stringOp .add (O ++ ts) ⟨#[32]⟩).run Tryz.prog w = .ok (.string ((O ++ ts) ++ ⟨#[32]⟩)) w := fun w => run_string_add_sum w _ _ (by simp only [ByteArray.size_append]; omega)
            go_wp2_with (first
              | (go_at_call 23; ((with_reducible refine (HPL.out _).mono ?_); skip; rintro e w2 ⟨rfl, hb2⟩; have e0 := cell_below hb2 (cell_of_row (wr.alloc (.cells #[.int .i64 2, .string ts, .int .i64 tn, .bool tq, .int .i64 tp] 35)) wr.heap.size 0 _ _ _ (heap_alloc_new wr _)); have e1 := cell_below hb2 (cell_of_row (wr.alloc (.cells #[.int .i64 2, .string ts, .int .i64 tn, .bool tq, .int .i64 tp] 35)) wr.heap.size 1 _ _ _ (heap_alloc_new wr _)); have e2 := cell_below hb2 (cell_of_row (wr.alloc (.cells #[.int .i64 2, .string ts, .int .i64 tn, .bool tq, .int .i64 tp] 35)) wr.heap.size 2 _ _ _ (heap_alloc_new wr _)); have e3 := cell_below hb2 (cell_of_row (wr.alloc (.cells #[.int .i64 2, .string ts, .int .i64 tn, .bool tq, .int .i64 tp] 35)) wr.heap.size 3 _ _ _ (heap_alloc_new wr _)); have HB2 := Lib.hid ((HB.out.alloc HB.out.size (.cells #[.int .i64 2, .string ts, .int .i64 tn, .bool tq, .int .i64 tp] 35)).trans (hb2.mono (Nat.le_trans HB.out.size (by simp)))); clear hb2)))
            go_roundw
            case rel => exact ⟨j + 1, hlt, by simp, by rw [HST.out _ HE.out], HB2.out⟩
            case measure => (simp [intOf] <;> omega)
          · have HE := Lib.hid (show bs (GT.told ⟨4, ts, tn, tq, tp⟩) = ts from by unfold GT.told toldL; rw [if_neg (by simp), if_neg (by simp), if_neg (by simp), if_neg (by simp)]; exact bs_self ts)
            have hadd1 : ∀ w, (Op.stringOp .add O ts).run Tryz.prog w = .ok (.string (O ++ ts)) w := fun w => run_string_add_sum w _ _ (by omega)
            have hadd2 : ∀ w, (Op.stringOp .add (O ++ ts) ⟨#[32]⟩).run Tryz.prog w = .ok (.string ((O ++ ts) ++ ⟨#[32]⟩)) w := fun w => run_string_add_sum w _ _ (by simp only [ByteArray.size_append]; omega)
            go_wp2_with (first
              | (go_at_call 23; ((with_reducible refine (HPL.out _).mono ?_); skip; rintro e w2 ⟨rfl, hb2⟩; have e0 := cell_below hb2 (cell_of_row (wr.alloc (.cells #[.int .i64 4, .string ts, .int .i64 tn, .bool tq, .int .i64 tp] 35)) wr.heap.size 0 _ _ _ (heap_alloc_new wr _)); have e1 := cell_below hb2 (cell_of_row (wr.alloc (.cells #[.int .i64 4, .string ts, .int .i64 tn, .bool tq, .int .i64 tp] 35)) wr.heap.size 1 _ _ _ (heap_alloc_new wr _)); have e2 := cell_below hb2 (cell_of_row (wr.alloc (.cells #[.int .i64 4, .string ts, .int .i64 tn, .bool tq, .int .i64 tp] 35)) wr.heap.size 2 _ _ _ (heap_alloc_new wr _)); have e3 := cell_below hb2 (cell_of_row (wr.alloc (.cells #[.int .i64 4, .string ts, .int .i64 tn, .bool tq, .int .i64 tp] 35)) wr.heap.size 3 _ _ _ (heap_alloc_new wr _)); have HB2 := Lib.hid ((HB.out.alloc HB.out.size (.cells #[.int .i64 4, .string ts, .int .i64 tn, .bool tq, .int .i64 tp] 35)).trans (hb2.mono (Nat.le_trans HB.out.size (by simp)))); clear hb2)))
            go_roundw
            case rel => exact ⟨j + 1, hlt, by simp, by rw [HST.out _ HE.out], HB2.out⟩
            case measure => (simp [intOf] <;> omega)
        · have hk2 : (tk == 2) = false := by simp; omega
          have hk4 : (tk == 4) = false := by simp; omega
          by_cases hk3 : tk = 3
          · subst hk3
            have HE := Lib.hid (show bs (GT.told ⟨3, ts, tn, tq, tp⟩) = bs (Lib.itoa tn) from by unfold GT.told toldL; rw [if_neg (by simp), if_neg (by simp), if_pos rfl])
            have HFG := Lib.hid (fun W => (show Calls Tryz.prog 25 #[.int .i64 tn] W (fun e w' => e = .returned (.string (bs (Lib.itoa tn))) ∧ Below W.heap.size W w') from fig_calls tn.natAbs tn W (Nat.le_refl _) HG.out.2.1 HG.out.2.2))
            obtain ⟨E, hE⟩ : ∃ E, bs (Lib.itoa tn) = E := ⟨_, rfl⟩
            have hEs : E.size ≤ 21 := by rw [← hE, bs_size]; exact Lib.itoa_length_le tn HG.out.2.1 HG.out.2.2
            rw [hE] at HFG HE
            have hadd1 : ∀ w, (Op.stringOp .add O E).run Tryz.prog w = .ok (.string (O ++ E)) w := fun w => run_string_add_sum w _ _ (by omega)
            have hadd2 : ∀ w, (Op.stringOp .add (O ++ E) ⟨#[32]⟩).run Tryz.prog w = .ok (.string ((O ++ E) ++ ⟨#[32]⟩)) w := fun w => run_string_add_sum w _ _ (by simp only [ByteArray.size_append]; omega)
            clear hE
            go_wp2_with (first
              | (go_at_call 23; ((with_reducible refine (HPL.out _).mono ?_); skip; rintro e w2 ⟨rfl, hb2⟩; have e0 := cell_below hb2 (cell_of_row (wr.alloc (.cells #[.int .i64 3, .string ts, .int .i64 tn, .bool tq, .int .i64 tp] 35)) wr.heap.size 0 _ _ _ (heap_alloc_new wr _)); have e1 := cell_below hb2 (cell_of_row (wr.alloc (.cells #[.int .i64 3, .string ts, .int .i64 tn, .bool tq, .int .i64 tp] 35)) wr.heap.size 1 _ _ _ (heap_alloc_new wr _)); have e2 := cell_below hb2 (cell_of_row (wr.alloc (.cells #[.int .i64 3, .string ts, .int .i64 tn, .bool tq, .int .i64 tp] 35)) wr.heap.size 2 _ _ _ (heap_alloc_new wr _)); have e3 := cell_below hb2 (cell_of_row (wr.alloc (.cells #[.int .i64 3, .string ts, .int .i64 tn, .bool tq, .int .i64 tp] 35)) wr.heap.size 3 _ _ _ (heap_alloc_new wr _)); have HB2 := Lib.hid ((HB.out.alloc HB.out.size (.cells #[.int .i64 3, .string ts, .int .i64 tn, .bool tq, .int .i64 tp] 35)).trans (hb2.mono (Nat.le_trans HB.out.size (by simp)))); clear hb2))
              | (go_at_call 25; ((with_reducible refine (HFG.out _).mono ?_); rintro e w3 ⟨rfl, hb3⟩; have HB3 := Lib.hid (HB2.out.trans (hb3.mono HB2.out.size)); clear hb3)))
            go_roundw
            case rel => exact ⟨j + 1, hlt, by simp, by rw [HST.out _ HE.out], HB3.out⟩
            case measure => (simp [intOf] <;> omega)
          · have hk3' : (tk == 3) = false := by simp; omega
            have HE := Lib.hid (show O ++ ⟨#[32]⟩ = bs (joinG (L.take (j + 1))) from by
              rw [← HST.out ⟨#[]⟩ (by unfold GT.told toldL; rw [if_neg (by simp [hk]), if_neg (by simp [hk]), if_neg hk3, if_pos (show tk < 1 ∨ 4 < tk by omega)]; rfl)]
              congr 1
              exact (ByteArray.append_empty).symm)
            have hadd2 : ∀ w, (Op.stringOp .add O ⟨#[32]⟩).run Tryz.prog w = .ok (.string (O ++ ⟨#[32]⟩)) w := fun w => run_string_add_sum w _ _ (by omega)
            go_wp2_with (first
              | (go_at_call 23; ((with_reducible refine (HPL.out _).mono ?_); skip; rintro e w2 ⟨rfl, hb2⟩; have e0 := cell_below hb2 (cell_of_row (wr.alloc (.cells #[.int .i64 tk, .string ts, .int .i64 tn, .bool tq, .int .i64 tp] 35)) wr.heap.size 0 _ _ _ (heap_alloc_new wr _)); have e1 := cell_below hb2 (cell_of_row (wr.alloc (.cells #[.int .i64 tk, .string ts, .int .i64 tn, .bool tq, .int .i64 tp] 35)) wr.heap.size 1 _ _ _ (heap_alloc_new wr _)); have e2 := cell_below hb2 (cell_of_row (wr.alloc (.cells #[.int .i64 tk, .string ts, .int .i64 tn, .bool tq, .int .i64 tp] 35)) wr.heap.size 2 _ _ _ (heap_alloc_new wr _)); have e3 := cell_below hb2 (cell_of_row (wr.alloc (.cells #[.int .i64 tk, .string ts, .int .i64 tn, .bool tq, .int .i64 tp] 35)) wr.heap.size 3 _ _ _ (heap_alloc_new wr _)); have HB2 := Lib.hid ((HB.out.alloc HB.out.size (.cells #[.int .i64 tk, .string ts, .int .i64 tn, .bool tq, .int .i64 tp] 35)).trans (hb2.mono (Nat.le_trans HB.out.size (by simp)))); clear hb2)))
            go_roundw
            case rel => exact ⟨j + 1, hlt, by simp, by rw [HE.out], HB2.out⟩
            case measure => (simp [intOf] <;> omega)
    · have hkn : j = n := by omega
      subst hkn
      have hd : decide ((j : Int) < (j : Int)) = false := decide_eq_false (by omega)
      have hall : L.take j = L := List.take_of_length_le (by rw [← HN.out]; exact Nat.le_refl _)
      rw [hall]
      clear hb hlt hj hall
      go_wp2_with fail
      go_ret
      exact ⟨rfl, HB.out⟩

set_option maxRecDepth 100000 in
set_option maxHeartbeats 16000000 in
theorem texts_calls (A : Option Addr) (n c : Nat) (L : List GT) (w : World) (hn : n = L.length) (hT : ToksAt w A L) (hok : ∀ t ∈ L, t.s.size ≤ 1048576 ∧ -9223372036854775808 ≤ t.n ∧ t.n ≤ 9223372036854775807) (hE : ErrW w) (hw : TabW w) :
    Calls Tryz.prog 4 #[.slice A n c] w fun e w' => e = .returned (.bool true) ∧ Below w.heap.size w w' := by
  have HE := Lib.hid hE
  have HW := Lib.hid hw
  have HT := Lib.hid hT
  clear hE hw hT
  by_cases h8 : 2000 < n
  · have hd8 : decide ((2000 : Int) < (n : Int)) = true := decide_eq_true (by omega)
    clear hn
    go_enter Tryz.func4, Tryz.ntmps4
    go_wp2_with (go_at_call 10; ((with_reducible refine (shown5_calls _ HE.out HW.out).mono ?_); rintro e w1 ⟨rfl, hb1⟩; have HB1 := Lib.hid hb1; clear hb1))
    go_ret
    exact ⟨rfl, HB1.out⟩
  · have hd8 : decide ((2000 : Int) < (n : Int)) = false := decide_eq_false (by omega)
    have hn2 : n ≤ 2000 := by omega
    have hfew := joinG_few L hok
    obtain ⟨J, hJ⟩ : ∃ J, bs (joinG L) = J := ⟨_, rfl⟩
    have HJC := Lib.hid (fun (W : World) (h : ToksAt W A L) (hw : TabW W) => (show Calls Tryz.prog 14 #[.slice A n c] W (fun e w' => e = .returned (.string J) ∧ Below W.heap.size W w') from by
      rw [← hJ]
      exact join_calls A n c L W hn h (fun t ht => ⟨Nat.le_trans (hok t ht).1 (by decide), (hok t ht).2⟩) (by omega) (by omega) hw))
    have HJR := Lib.hid (fun (W : World) (h : ToksAt W A L) => (show Calls Tryz.prog 15 #[.slice A n c] W (fun e w' => e = .returned (.string J) ∧ Below W.heap.size W w') from by
      rw [← hJ]
      exact rjoin_calls A n c L W hn h hok hn2))
    have hjj : (J.toList == J.toList) = true := by simp
    clear hJ hfew hn hok
    go_enter Tryz.func4, Tryz.ntmps4
    go_wp2_with (first
      | (go_at_call 10; ((with_reducible refine (shown5_calls _ HE.out HW.out).mono ?_); rintro e w1 ⟨rfl, hb1⟩; have HB1 := Lib.hid hb1; have HW1 := Lib.hid (HW.out.below hb1); have HT1 := Lib.hid (HT.out.below hb1); clear hb1))
      | (go_at_call 14; ((with_reducible refine (HJC.out _ HT1.out HW1.out).mono ?_); rintro e w2 ⟨rfl, hb2⟩; have HB2 := Lib.hid (HB1.out.trans (hb2.mono HB1.out.size)); have HT2 := Lib.hid (HT1.out.below hb2); clear hb2))
      | (go_at_call 15; ((with_reducible refine (HJR.out _ HT2.out).mono ?_); rintro e w3 ⟨rfl, hb3⟩; have HB3 := Lib.hid (HB2.out.trans (hb3.mono HB2.out.size)); clear hb3)))
    go_ret
    exact ⟨rfl, HB3.out⟩
end Go.Proofs.YtdfjhhhbkgelaaaGreatDoor.V
