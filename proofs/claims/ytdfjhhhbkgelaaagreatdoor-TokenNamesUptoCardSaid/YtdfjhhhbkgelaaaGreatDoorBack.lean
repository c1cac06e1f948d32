/- lambrequinlaw05.TokenBack. -/
import Derived.Test.YtdfjhhhbkgelaaaGreatDoorSame
namespace Go.Proofs.YtdfjhhhbkgelaaaGreatDoor.V
set_option linter.unusedVariables false
set_option linter.unusedSimpArgs false
open Go.RowKit

theorem told_ge (t : Tok) (h : TokFit t) : t.s.length ≤ t.told.length := by
  obtain ⟨k, s, n, q⟩ := t
  have hm : ∀ k : Nat, k = 2 ∨ k = 4 → toldL (k : Int) s n q = s := by
    intro k hk
    unfold toldL
    rcases hk with rfl | rfl <;> rw [if_neg (by simp), if_neg (by simp), if_neg (by simp), if_neg (by simp)]
  rcases h with ⟨h1, h2, h3⟩ | ⟨h1, h2, h3, h4, h5, h6⟩ | ⟨h1, h2, h3, h4, h5, h6⟩ | ⟨h1, h2, h3, h4, h5⟩ | ⟨h1, h2, h3, h4⟩ <;> dsimp only at *
  · subst h1 h3
    have e : Tok.told ⟨1, s, n, true⟩ = 39 :: escL s ++ [39] := told_quoted s n
    have := escL_length s
    rw [e]
    simp
    omega
  · subst h1 h3
    have e : Tok.told ⟨1, s, n, false⟩ = s := told_name s n h4 h5
    rw [e]
    exact Nat.le_refl _
  · subst h1
    have e : Tok.told ⟨2, s, n, q⟩ = s := hm 2 (.inl rfl)
    rw [e]
    exact Nat.le_refl _
  · subst h3
    simp
  · subst h1
    have e : Tok.told ⟨4, s, n, q⟩ = s := hm 4 (.inr rfl)
    rw [e]
    exact Nat.le_refl _
theorem told_in {L : List Tok} {t : Tok} (h : t ∈ L) : t.told.length ≤ (joinL L).length := by
  induction L with
  | nil => cases h
  | cons x L ih =>
    rw [joinL, List.flatMap_cons, List.length_append, List.length_append, ← joinL]
    rcases List.mem_cons.1 h with rfl | h
    · omega
    · have := ih h
      omega
theorem fit_n {t : Tok} (h : TokFit t) : -9223372036854775808 ≤ t.n ∧ t.n ≤ 9223372036854775807 := by
  rcases h with ⟨h1, h2, h3⟩ | ⟨h1, h2, h3, h4, h5, h6⟩ | ⟨h1, h2, h3, h4, h5, h6⟩ | ⟨h1, h2, h3, h4, h5⟩ | ⟨h1, h2, h3, h4⟩ <;> omega
theorem gt_ok {L : List TP'} (h : ∀ p ∈ L, TokFit p.1) (hl : (joinL (L.map Prod.fst)).length ≤ 1000000) : ∀ t ∈ L.map gtOf, GTOk t := by
  intro t ht
  obtain ⟨p, hp, rfl⟩ := List.mem_map.1 ht
  have h1 := told_ge p.1 (h p hp)
  have h2 := told_in (List.mem_map_of_mem (f := Prod.fst) hp)
  refine ⟨?_, (fit_n (h p hp)).1, (fit_n (h p hp)).2⟩
  show (bs p.1.s).size ≤ _
  rw [bs_size]
  omega
theorem kinds_fit : ∀ (s : List UInt8) (L : List TP'), scanL s = .ok L → ∀ p ∈ L, TokFit p.1 := by
  intro s L h p hp
  unfold scanL at h
  split at h
  · cases h
  · exact (scanT_fit s.length s.length s (Nat.le_refl _) L h).1 _ (List.mem_map_of_mem hp)

set_option maxRecDepth 100000 in
set_option maxHeartbeats 16000000 in
theorem back_calls (s : ByteArray) (w : World) (hs : s.size ≤ 1048576) (hE : ErrW w) (hw : TabW w) :
    Calls Tryz.prog 5 #[.string s] w fun e w' => e = .returned (.bool true) ∧ Below w.heap.size w w' := by
  have HE := Lib.hid hE
  have HW := Lib.hid hw
  clear hE hw
  by_cases h8 : 8000 < s.size
  · have hd8 : decide ((8000 : Int) < (s.size : Int)) = true := decide_eq_true (by omega)
    go_enter Tryz.func5, Tryz.ntmps5
    go_wp2_with (go_at_call 10; ((with_reducible refine (shown5_calls _ HE.out HW.out).mono ?_); rintro e w1 ⟨rfl, hb1⟩; have HB1 := Lib.hid hb1; clear hb1))
    go_ret
    exact ⟨rfl, HB1.out⟩
  · have hd8 : decide ((8000 : Int) < (s.size : Int)) = false := decide_eq_false (by omega)
    have hs9 : s.size ≤ 9223372036854775807 := by omega
    have hs8 : s.data.toList.length ≤ 8000 := by have : s.data.toList.length = s.size := by simp
                                                 omega
    cases hp : scanL s.data.toList with
    | bad a m =>
      have hm : ((m : Int) != 0) = true := by have := scanL_err hp; simp; omega
      have HP := Lib.hid hp
      clear hp hs8
      go_enter Tryz.func5, Tryz.ntmps5
      go_wp2_with (first
        | (go_at_call 10; ((with_reducible refine (shown5_calls _ HE.out HW.out).mono ?_); rintro e w1 ⟨rfl, hb1⟩; have HB1 := Lib.hid hb1; have HE1 := Lib.hid (HE.out.below hb1); clear hb1))
        | (go_at_call 11; ((with_reducible refine (scan_no s _ hs9 HE1.out HP.out).mono ?_); rintro e w2 ⟨hb2, rfl⟩; have HB2 := Lib.hid (HB1.out.trans (hb2.mono HB1.out.size)); clear hb2)))
      go_ret
      exact ⟨rfl, HB2.out⟩
    | ok L =>
      obtain ⟨hj, L', hL', hLL⟩ := scan_join_scan _ hs8 L hp
      have hfit := kinds_fit _ L hp
      have hgok := gt_ok hfit (by omega)
      obtain ⟨n, hn⟩ : ∃ n, n = L.length := ⟨_, rfl⟩
      have hn' : n = L'.length := by rw [hn, ← List.length_map (f := Prod.fst), ← hLL, List.length_map]
      have HPY := Lib.hid (fun (W : World) (hE : ErrW W) => scan_yes n hn s W hs9 hE hp)
      obtain ⟨J, hJ⟩ : ∃ J, bs (joinG (L.map gtOf)) = J := ⟨_, rfl⟩
      have hJs : J.size ≤ 9223372036854775807 := by rw [← hJ, bs_size, joinG_of]; omega
      have HJC := Lib.hid (fun (W : World) (A : Option Addr) (c : Nat) (hn2 : n ≤ 9223372036854775806) (h : ToksAt W A (L.map gtOf)) (hw : TabW W) => (show Calls Tryz.prog 14 #[.slice A n c] W (fun e w' => e = .returned (.string J) ∧ Below W.heap.size W w') from by
        have h1 := join_calls A n c _ W (by rw [List.length_map]; exact hn) h hgok (by rw [joinG_of]; omega) hn2 hw
        rw [hJ] at h1
        exact h1))
      have HPZ := Lib.hid (fun (W : World) (hE : ErrW W) => scan_yes n hn' J W hJs hE (by rw [← hJ, joinG_of]; exact hL'))
      have HSC := Lib.hid (fun (W : World) (A B : Option Addr) (c d : Nat) (hn2 : n ≤ 9223372036854775806) (h1 : ToksAt W A (L.map gtOf)) (h2 : ToksAt W B (L'.map gtOf)) => same5_calls false A B n c d _ _ W (by rw [List.length_map]; exact hn) (by rw [List.length_map]; exact hn') hn2 h1 h2 (sameG_of hLL.symm))
      have HN := Lib.hid hn
      have HN' := Lib.hid hn'
      clear hp hn hn' hs8 hj hL' hLL hfit hgok hJ hJs
      go_enter Tryz.func5, Tryz.ntmps5
      go_wp2_with (first
        | (go_at_call 10; ((with_reducible refine (shown5_calls _ HE.out HW.out).mono ?_); rintro e w1 ⟨rfl, hb1⟩; have HB1 := Lib.hid hb1; have HE1 := Lib.hid (HE.out.below hb1); have HW1 := Lib.hid (HW.out.below hb1); clear hb1))
        | (go_at_call 11; ((with_reducible refine (HPY.out _ HE1.out).mono ?_); rintro e w2 ⟨hb2, A, c, rfl, ho, hn6⟩; have HB2 := Lib.hid (HB1.out.trans (hb2.mono HB1.out.size)); have HE2 := Lib.hid (HE1.out.below hb2); have HW2 := Lib.hid (HW1.out.below hb2); have HT2 := Lib.hid (toks_row ho HN.out); have HN6 := Lib.hid (show n ≤ 9223372036854775806 from by omega); clear hb2 ho hn6))
        | (go_at_call 14; ((with_reducible refine (HJC.out _ _ _ HN6.out HT2.out HW2.out).mono ?_); rintro e w3 ⟨rfl, hb3⟩; have HB3 := Lib.hid (HB2.out.trans (hb3.mono HB2.out.size)); have HE3 := Lib.hid (HE2.out.below hb3); have HT3 := Lib.hid (HT2.out.below hb3); clear hb3))
        | (go_at_call 11; ((with_reducible refine (HPZ.out _ HE3.out).mono ?_); rintro e w4 ⟨hb4, A', c', rfl, ho, hn6⟩; have HB4 := Lib.hid (HB3.out.trans (hb4.mono HB3.out.size)); have HT4 := Lib.hid (HT3.out.below hb4); have HU4 := Lib.hid (toks_row ho HN'.out); clear hb4 ho hn6))
        | (go_at_call 13; ((with_reducible refine (HSC.out _ _ _ _ _ HN6.out HT4.out HU4.out).mono ?_); rintro e w5 ⟨rfl, hb5⟩; have HB5 := Lib.hid (HB4.out.trans (hb5.mono HB4.out.size)); clear hb5)))
      go_ret
      exact ⟨rfl, HB5.out⟩
end Go.Proofs.YtdfjhhhbkgelaaaGreatDoor.V
