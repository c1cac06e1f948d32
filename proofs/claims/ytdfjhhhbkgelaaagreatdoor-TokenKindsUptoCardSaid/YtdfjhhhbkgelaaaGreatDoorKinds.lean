/- lambrequinlaw05.TokenKinds. -/
import Derived.Test.YtdfjhhhbkgelaaaGreatDoorShow5
import Derived.BigQuiet
import Derived.Deep.QuietTactic
namespace Go.Proofs.YtdfjhhhbkgelaaaGreatDoor.V
set_option linter.unusedVariables false
set_option linter.unusedSimpArgs false
open Go.RowKit

theorem kinds_all : ∀ (s : List UInt8) (L : List TP'), scanL s = .ok L → ∀ p ∈ L, TokFit p.1 := by
  intro s L h p hp
  unfold scanL at h
  split at h
  · cases h
  · exact (scanT_fit s.length s.length s (Nat.le_refl _) L h).1 _ (List.mem_map_of_mem hp)

set_option maxRecDepth 100000 in
set_option maxHeartbeats 16000000 in
theorem kinds_calls (s : ByteArray) (w : World) (hs : s.size ≤ 1048576) (hE : ErrW w) (hw : TabW w) :
    Calls Tryz.prog 9 #[.string s] w fun e w' => e = .returned (.bool true) ∧ Below w.heap.size w w' := by
  have HE := Lib.hid hE
  have HW := Lib.hid hw
  clear hE hw
  by_cases h8 : 8000 < s.size
  · have hd8 : decide ((8000 : Int) < (s.size : Int)) = true := decide_eq_true (by omega)
    go_enter Tryz.func9, Tryz.ntmps9
    go_wp2_with (go_at_call 10; ((with_reducible refine (shown5_calls _ HE.out HW.out).mono ?_); rintro e w1 ⟨rfl, hb1⟩; have HB1 := Lib.hid hb1; clear hb1))
    go_ret
    exact ⟨rfl, HB1.out⟩
  · have hd8 : decide ((8000 : Int) < (s.size : Int)) = false := decide_eq_false (by omega)
    have hs9 : s.size ≤ 9223372036854775807 := by omega
    cases hp : scanL s.data.toList with
    | bad a m =>
      have hm : ((m : Int) != 0) = true := by have := scanL_err hp; simp; omega
      have HP := Lib.hid hp
      clear hp
      go_enter Tryz.func9, Tryz.ntmps9
      go_wp2_with (first
        | (go_at_call 10; ((with_reducible refine (shown5_calls _ HE.out HW.out).mono ?_); rintro e w1 ⟨rfl, hb1⟩; have HB1 := Lib.hid hb1; have HE1 := Lib.hid (HE.out.below hb1); clear hb1))
        | (go_at_call 11; ((with_reducible refine (scan_no s _ hs9 HE1.out HP.out).mono ?_); rintro e w2 ⟨hb2, rfl⟩; have HB2 := Lib.hid (HB1.out.trans (hb2.mono HB1.out.size)); clear hb2)))
      go_ret
      exact ⟨rfl, HB2.out⟩
    | ok L =>
      have HK := Lib.hid (kinds_all _ L hp)
      obtain ⟨n, hn⟩ : ∃ n, n = L.length := ⟨_, rfl⟩
      have HN := Lib.hid hn
      have HPY := Lib.hid (fun (W : World) (hE : ErrW W) => scan_yes n hn s W hs9 hE hp)
      clear hp hn
      go_enter Tryz.func9, Tryz.ntmps9
      go_wp2_with (first
        | (go_at_call 10; ((with_reducible refine (shown5_calls _ HE.out HW.out).mono ?_); rintro e w1 ⟨rfl, hb1⟩; have HB1 := Lib.hid hb1; have HE1 := Lib.hid (HE.out.below hb1); clear hb1))
        | (go_at_call 11; ((with_reducible refine (HPY.out _ HE1.out).mono ?_); rintro e w2 ⟨hb2, A, c, rfl, ho, hn6⟩; have HB2 := Lib.hid (HB1.out.trans (hb2.mono HB1.out.size)); have HO := Lib.hid ho; have HN6 := Lib.hid hn6; clear hb2 ho hn6)))
      go_loopw [7] (fun i wr => ∃ j : Nat, j ≤ n ∧ i = .int .i64 (j : Int) ∧ Below w2.heap.size w2 wr) (fun i _ => n + 1 - (intOf i).toNat)
      case atStart => exact ⟨0, Nat.zero_le _, rfl, Below.refl _ _⟩
      case round =>
        obtain ⟨j, hj, rfl, hb⟩ := hrel
        have HB := Lib.hid hb
        have hn6 := HN6.out
        by_cases hlt : j < n
        · have hd : decide ((j : Int) < (n : Int)) = true := decide_eq_true (by omega)
          obtain ⟨⟨⟨tk, ts, tn, tq⟩, tp⟩, hx⟩ : ∃ x, L[j]? = some x := ⟨_, List.getElem?_eq_getElem (by rw [← HN.out]; exact hlt)⟩
          have hfit := HK.out _ (List.mem_of_getElem? hx)
          obtain ⟨g, rfl, hc⟩ := flat_row tokC (fun x => rfl) HO.out HN.out hx
          have c4 := cell_below hb (hc 4 _ (by omega) rfl)
          rcases hfit with ⟨h1, h2, h3⟩ | ⟨h1, h2, h3, h4, h5, h6⟩ | ⟨h1, h2, h3, h4, h5, h6⟩ | ⟨h1, h2, h3, h4, h5⟩ | ⟨h1, h2, h3, h4⟩ <;> dsimp only at h1 h2 h3
          · subst h1 h2 h3
            have c0 : wr.cell? ⟨g, j * 5, none⟩ = some (.int .i64 1) := cell_below hb (hc 0 _ (by omega) rfl)
            have c1 : wr.cell? ⟨g, j * 5 + 1, none⟩ = some (.string (bs ts)) := cell_below hb (hc 1 _ (by omega) rfl)
            have c2 : wr.cell? ⟨g, j * 5 + 2, none⟩ = some (.int .i64 0) := cell_below hb (hc 2 _ (by omega) rfl)
            have c3 : wr.cell? ⟨g, j * 5 + 3, none⟩ = some (.bool true) := cell_below hb (hc 3 _ (by omega) rfl)
            clear hb hc hx
            go_wp2_with fail
            go_roundw
            case rel => exact ⟨j + 1, hlt, by simp, HB.out.alloc HB.out.size _⟩
            case measure => simp [intOf]; omega
          · subst h1 h2 h3
            have c0 : wr.cell? ⟨g, j * 5, none⟩ = some (.int .i64 1) := cell_below hb (hc 0 _ (by omega) rfl)
            have c1 : wr.cell? ⟨g, j * 5 + 1, none⟩ = some (.string (bs ts)) := cell_below hb (hc 1 _ (by omega) rfl)
            have c2 : wr.cell? ⟨g, j * 5 + 2, none⟩ = some (.int .i64 0) := cell_below hb (hc 2 _ (by omega) rfl)
            have c3 : wr.cell? ⟨g, j * 5 + 3, none⟩ = some (.bool false) := cell_below hb (hc 3 _ (by omega) rfl)
            dsimp only at h4 h5 h6
            obtain ⟨hpp, hP, he⟩ := first_facts h4
            unfold sml at hP
            simp only [Bool.and_eq_true] at hP
            obtain ⟨d1, d2⟩ := hP
            have hsz : decide (((bs ts).size : Int) ≤ 32) = true := decide_eq_true (by simp [bs, ByteArray.size]; omega)
            clear hb hc hx h4 h5 h6
            go_wp2_with fail
            go_roundw
            case rel => exact ⟨j + 1, hlt, by simp, HB.out.alloc HB.out.size _⟩
            case measure => simp [intOf]; omega
          · subst h1 h2 h3
            have c0 : wr.cell? ⟨g, j * 5, none⟩ = some (.int .i64 2) := cell_below hb (hc 0 _ (by omega) rfl)
            have c1 : wr.cell? ⟨g, j * 5 + 1, none⟩ = some (.string (bs ts)) := cell_below hb (hc 1 _ (by omega) rfl)
            have c2 : wr.cell? ⟨g, j * 5 + 2, none⟩ = some (.int .i64 0) := cell_below hb (hc 2 _ (by omega) rfl)
            have c3 : wr.cell? ⟨g, j * 5 + 3, none⟩ = some (.bool false) := cell_below hb (hc 3 _ (by omega) rfl)
            dsimp only at h4 h5 h6
            obtain ⟨hpp, hP, he⟩ := first_facts h4
            unfold bgI at hP
            simp only [Bool.and_eq_true] at hP
            obtain ⟨d1, d2⟩ := hP
            have hsz : decide (((bs ts).size : Int) ≤ 32) = true := decide_eq_true (by simp [bs, ByteArray.size]; omega)
            clear hb hc hx h4 h5 h6
            go_wp2_with fail
            go_roundw
            case rel => exact ⟨j + 1, hlt, by simp, HB.out.alloc HB.out.size _⟩
            case measure => simp [intOf]; omega
          · subst h1 h2 h3
            have c0 : wr.cell? ⟨g, j * 5, none⟩ = some (.int .i64 3) := cell_below hb (hc 0 _ (by omega) rfl)
            have c1 : wr.cell? ⟨g, j * 5 + 1, none⟩ = some (.string ⟨#[]⟩) := cell_below hb (hc 1 _ (by omega) rfl)
            have c2 : wr.cell? ⟨g, j * 5 + 2, none⟩ = some (.int .i64 tn) := cell_below hb (hc 2 _ (by omega) rfl)
            have c3 : wr.cell? ⟨g, j * 5 + 3, none⟩ = some (.bool false) := cell_below hb (hc 3 _ (by omega) rfl)
            clear hb hc hx h4 h5
            go_wp2_with fail
            go_roundw
            case rel => exact ⟨j + 1, hlt, by simp, HB.out.alloc HB.out.size _⟩
            case measure => simp [intOf]; omega
          · subst h1 h2 h3
            have c0 : wr.cell? ⟨g, j * 5, none⟩ = some (.int .i64 4) := cell_below hb (hc 0 _ (by omega) rfl)
            have c1 : wr.cell? ⟨g, j * 5 + 1, none⟩ = some (.string (bs ts)) := cell_below hb (hc 1 _ (by omega) rfl)
            have c2 : wr.cell? ⟨g, j * 5 + 2, none⟩ = some (.int .i64 0) := cell_below hb (hc 2 _ (by omega) rfl)
            have c3 : wr.cell? ⟨g, j * 5 + 3, none⟩ = some (.bool false) := cell_below hb (hc 3 _ (by omega) rfl)
            dsimp only at h4
            have h12 : ts.length = 1 ∨ ts.length = 2 := by
              rcases h4 with (rfl | rfl | rfl | rfl) | ⟨x, rfl, _⟩ <;> simp
            rcases h12 with h12 | h12
            · have hs1 : (((bs ts).size : Int) == 1) = true := by rw [bs_size, h12]; rfl
              clear hb hc hx h4 h12
              go_wp2_with fail
              go_roundw
              case rel => exact ⟨j + 1, hlt, by simp, HB.out.alloc HB.out.size _⟩
              case measure => simp [intOf]; omega
            · have hs1 : (((bs ts).size : Int) == 1) = false := by rw [bs_size, h12]; rfl
              have hs2 : (((bs ts).size : Int) == 2) = true := by rw [bs_size, h12]; rfl
              clear hb hc hx h4 h12
              go_wp2_with fail
              go_roundw
              case rel => exact ⟨j + 1, hlt, by simp, HB.out.alloc HB.out.size _⟩
              case measure => simp [intOf]; omega
        · have hjn : j = n := by omega
          subst hjn
          have hd : decide ((j : Int) < (j : Int)) = false := decide_eq_false (by omega)
          clear hb hlt hj
          go_wp2_with fail
          go_ret
          exact ⟨rfl, HB2.out.trans (HB.out.mono HB2.out.size)⟩
end Go.Proofs.YtdfjhhhbkgelaaaGreatDoor.V
