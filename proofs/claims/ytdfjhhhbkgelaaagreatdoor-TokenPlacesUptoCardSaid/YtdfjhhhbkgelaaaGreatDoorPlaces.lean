/- lambrequinlaw05.TokenPlaces. -/
import Derived.Test.YtdfjhhhbkgelaaaGreatDoorBack
import Derived.Test.YtdfjhhhbkgelaaaGreatDoorPlace
import Derived.IntWalk
namespace Go.Proofs.YtdfjhhhbkgelaaaGreatDoor.V
set_option linter.unusedVariables false
set_option linter.unusedSimpArgs false
open Go.RowKit

def padS (k : Nat) : ByteArray := bs (List.replicate k 32)
theorem padS_size (k : Nat) : (padS k).size = k := by rw [padS, bs_size, List.length_replicate]
theorem padS_succ (k : Nat) : padS k ++ ⟨#[32]⟩ = padS (k + 1) := by
  rw [padS, padS, List.replicate_succ', ← bs_append]
  rfl
theorem padS_app (k : Nat) (s : ByteArray) : (padS k ++ s).data.toList = List.replicate k 32 ++ s.data.toList := by
  rw [ByteArray.data_append, Array.toList_append]
  rfl

theorem rise_in : ∀ {L : List TP'} {a b i : Nat} {p : TP'}, Rise a b L → L[i]? = some p → a ≤ p.2 ∧ p.2 < b
  | [], _, _, _, _, _, h => by simp at h
  | q :: L, a, b, 0, p, ⟨h1, h2, h3⟩, h => by
    simp only [List.getElem?_cons_zero, Option.some.injEq] at h
    subst h
    exact ⟨h1, h2⟩
  | q :: L, a, b, i + 1, p, ⟨h1, h2, h3⟩, h => by
    rw [List.getElem?_cons_succ] at h
    obtain ⟨h4, h5⟩ := rise_in h3 h
    exact ⟨by omega, h5⟩
theorem rise_up : ∀ {L : List TP'} {a b i : Nat} {p q : TP'}, Rise a b L → L[i]? = some p → L[i + 1]? = some q → p.2 < q.2
  | [], _, _, _, _, _, _, h, _ => by simp at h
  | x :: L, a, b, 0, p, q, ⟨h1, h2, h3⟩, h, h' => by
    simp only [List.getElem?_cons_zero, Option.some.injEq] at h
    subst h
    rw [List.getElem?_cons_succ] at h'
    exact (rise_in h3 h').1
  | x :: L, a, b, i + 1, p, q, ⟨h1, h2, h3⟩, h, h' => by
    rw [List.getElem?_cons_succ] at h h'
    exact rise_up h3 h h'

set_option maxRecDepth 100000 in
set_option maxHeartbeats 16000000 in
theorem places_calls (s : ByteArray) (n : Int) (w : World) (hs : s.size ≤ 1048576) (h0 : 0 ≤ n) (h1 : n ≤ 255) (hE : ErrW w) (hw : TabW w) :
    Calls Tryz.prog 7 #[.string s, .int .u8 n] w fun e w' => e = .returned (.bool true) ∧ Below w.heap.size w w' := by
  have HE := Lib.hid hE
  have HW := Lib.hid hw
  clear hE hw
  by_cases h8 : 8000 < s.size
  · have hd8 : decide ((8000 : Int) < (s.size : Int)) = true := decide_eq_true (by omega)
    clear h0 h1
    go_enter Tryz.func7, Tryz.ntmps7
    go_wp2_with (go_at_call 10; ((with_reducible refine (shown5_calls _ HE.out HW.out).mono ?_); rintro e w1 ⟨rfl, hb1⟩; have HB1 := Lib.hid hb1; clear hb1))
    go_ret
    exact ⟨rfl, HB1.out⟩
  · have hd8 : decide ((8000 : Int) < (s.size : Int)) = false := decide_eq_false (by omega)
    have hs9 : s.size ≤ 9223372036854775807 := by omega
    obtain ⟨k, hk⟩ : ∃ k : Nat, n.tmod 40 = (k : Int) := ⟨(n.tmod 40).toNat, by rw [Int.toNat_of_nonneg (Int.tmod_nonneg _ h0)]⟩
    have hk40 : k < 40 := by
      have := Int.tmod_lt_of_pos n (show (0 : Int) < 40 by decide)
      omega
    go_enter Tryz.func7, Tryz.ntmps7
    go_wp2_with (go_at_call 10; ((with_reducible refine (shown5_calls _ HE.out HW.out).mono ?_); rintro e w1 ⟨rfl, hb1⟩; have HB1 := Lib.hid hb1; have HE1 := Lib.hid (HE.out.below hb1); clear hb1))
    go_loopw [7, 6] (fun i pad wr => ∃ j : Nat, j ≤ k ∧ i = .int .i64 (j : Int) ∧ pad = .string (padS j) ∧ wr = w1) (fun i _ _ => k + 1 - (intOf i).toNat)
    case atStart => exact ⟨0, Nat.zero_le _, rfl, rfl, rfl⟩
    case round =>
      obtain ⟨j, hj, rfl, rfl, rfl⟩ := hrel
      have hps := padS_size j
      have HPS := Lib.hid hps
      by_cases hlt : j < k
      · have hd : decide ((j : Int) < (k : Int)) = true := decide_eq_true (by omega)
        have hadd : ∀ w, (Op.stringOp .add (padS j) ⟨#[32]⟩).run Tryz.prog w = .ok (.string (padS (j + 1))) w := fun w => by rw [← padS_succ]; exact run_string_add_sum w _ _ (by have : (⟨#[32]⟩ : ByteArray).size = 1 := rfl; omega)
        clear hps
        go_wp2_with fail
        go_roundw
        case rel => exact ⟨j + 1, hlt, by simp, rfl, trivial⟩
        case measure => simp [intOf]; omega
      · have hjk : j = k := by omega
        subst hjk
        have hd : decide ((j : Int) < (j : Int)) = false := decide_eq_false (by omega)
        have hadd : ∀ w, (Op.stringOp .add (padS j) s).run Tryz.prog w = .ok (.string (padS j ++ s)) w := fun w => run_string_add_sum w _ _ (by omega)
        have hP9 : (padS j ++ s).size ≤ 9223372036854775807 := by rw [ByteArray.size_append]; omega
        have hpad := scanL_pad j s.data.toList (by have : s.data.toList.length = s.size := by simp
                                                   omega)
        rw [← padS_app] at hpad
        clear hlt hj
        cases hp : scanL s.data.toList with
        | bad a m =>
          have hm : ((m : Int) != 0) = true := by have := scanL_err hp; simp; omega
          have hmm : ((m : Int) == (m : Int)) = true := by simp
          have ha := scanL_within s.data.toList (by have : s.data.toList.length = s.size := by simp
                                                    omega)
          rw [hp] at ha hpad
          have ha2 : a ≤ 8000 := by
            have h2 := ha.2
            have : s.data.toList.length = s.size := by simp
            omega
          have HP := Lib.hid hp
          have HQ := Lib.hid (show scanL (padS j ++ s).data.toList = .bad (a + j) m from hpad)
          have haj : ((a : Int) + (j : Int) == (a : Int) + (j : Int)) = true := by simp
          have hwr : IntKind.i64.wrap ((a : Int) + (j : Int)) = (a : Int) + (j : Int) := IntWalk.i64_in _ (by omega)
          clear hp hpad ha
          go_wp2_with (first
            | (go_at_call 11; ((with_reducible refine (scan_no s _ hs9 HE1.out HP.out).mono ?_); rintro e w2 ⟨hb2, rfl⟩; have HB2 := Lib.hid (HB1.out.trans (hb2.mono HB1.out.size)); have HE2 := Lib.hid (HE1.out.below hb2); clear hb2))
            | (go_at_call 11; ((with_reducible refine (scan_no (padS j ++ s) _ hP9 HE2.out HQ.out).mono ?_); rintro e w3 ⟨hb3, rfl⟩; have HB3 := Lib.hid (HB2.out.trans (hb3.mono HB2.out.size)); clear hb3)))
          go_ret
          exact ⟨rfl, HB3.out⟩
        | ok L =>
          have ha := scanL_within s.data.toList (by have : s.data.toList.length = s.size := by simp
                                                    omega)
          rw [hp] at ha hpad
          have hss : s.data.toList.length = s.size := by simp
          rw [hss] at ha
          obtain ⟨n, hn⟩ : ∃ n, n = L.length := ⟨_, rfl⟩
          have hn' : n = (L.map fun p => (p.1, p.2 + j)).length := by rw [List.length_map]; exact hn
          have HPY := Lib.hid (fun (W : World) (hE : ErrW W) => scan_yes n hn s W hs9 hE hp)
          have HPZ := Lib.hid (fun (W : World) (hE : ErrW W) => scan_yes n hn' (padS j ++ s) W hP9 hE hpad)
          have HR := Lib.hid (show Rise 0 s.size L from ha)
          have HN := Lib.hid hn
          have HN' := Lib.hid hn'
          have hnn : ((n : Int) != (n : Int)) = false := by simp
          clear hp hpad ha hn hn' hss
          go_wp2_with (first
            | (go_at_call 11; ((with_reducible refine (HPY.out _ HE1.out).mono ?_); rintro e w2 ⟨hb2, A, c, rfl, ho, hn6⟩; have HB2 := Lib.hid (HB1.out.trans (hb2.mono HB1.out.size)); have HE2 := Lib.hid (HE1.out.below hb2); have HO := Lib.hid ho; have HN6 := Lib.hid hn6; clear hb2 ho hn6))
            | (go_at_call 11; ((with_reducible refine (HPZ.out _ HE2.out).mono ?_); rintro e w3 ⟨hb3, A', c', rfl, ho, _⟩; have HB3 := Lib.hid (HB2.out.trans (hb3.mono HB2.out.size)); have HO2 := Lib.hid (ho); have HO3 := Lib.hid (show w3.ownsRow _ _ _ _ _ _ from HO.out.kept (row := none) ⟨hb3.os, hb3.tape, hb3.output, hb3.size, fun k hk _ => hb3.block k hk⟩ (by cases hv : (Value.slice A n c).ownBlock <;> simp)); clear hb3 ho)))
          go_loopw [14] (fun i wr => ∃ k : Nat, k ≤ n ∧ i = .int .i64 (k : Int) ∧ Below w3.heap.size w3 wr) (fun i _ => n + 1 - (intOf i).toNat)
          case atStart => exact ⟨0, Nat.zero_le _, rfl, Below.refl _ _⟩
          case round =>
            obtain ⟨k, hk, rfl, hb⟩ := hrel
            have HB := Lib.hid hb
            have hn6 := HN6.out
            by_cases hlt : k < n
            · have hd : decide ((k : Int) < (n : Int)) = true := decide_eq_true (by omega)
              obtain ⟨⟨t, p⟩, hx⟩ : ∃ x, L[k]? = some x := ⟨_, List.getElem?_eq_getElem (by rw [← HN.out]; exact hlt)⟩
              have hy : (L.map fun p => (p.1, p.2 + j))[k]? = some (t, p + j) := by rw [List.getElem?_map, hx]; rfl
              obtain ⟨g, rfl, hc⟩ := flat_row tokC (fun x => rfl) HO3.out HN.out hx
              obtain ⟨g', rfl, hc'⟩ := flat_row tokC (fun x => rfl) HO2.out HN'.out hy
              obtain ⟨hp1, hp2⟩ := rise_in HR.out hx
              have c4 : wr.cell? ⟨g, k * 5 + 4, none⟩ = some (.int .i64 (p : Int)) := cell_below hb (hc 4 _ (by omega) rfl)
              have m4 : wr.cell? ⟨g', k * 5 + 4, none⟩ = some (.int .i64 ((p : Int) + (j : Int))) := (cell_below hb (hc' 4 _ (by omega) rfl)).trans (by simp)
              have l1 : decide ((p : Int) < 0) = false := decide_eq_false (by omega)
              have l2 : decide ((s.size : Int) ≤ (p : Int)) = false := decide_eq_false (by omega)
              have l2' : decide (s.size ≤ p) = false := decide_eq_false (by omega)
              have hwr : IntKind.i64.wrap ((p : Int) + (j : Int)) = (p : Int) + (j : Int) := IntWalk.i64_in _ (by omega)
              have l4 : ((p : Int) + (j : Int) != (p : Int) + (j : Int)) = false := by simp
              cases k with
              | zero =>
                rw [Nat.zero_mul, Nat.zero_add] at c4 m4
                clear hb hy hx hc hc'
                go_wp2_with fail
                go_quiet (fail)
                go_wp2_with fail
                go_roundw
                case rel => exact ⟨1, hlt, by simp, HB.out.trans ⟨rfl, rfl, rfl, Nat.le_refl _, fun _ _ => rfl⟩⟩
                case measure => (simp [intOf] <;> omega)
              | succ k =>
                obtain ⟨⟨t0, p0⟩, hx0⟩ : ∃ x, L[k]? = some x := ⟨_, List.getElem?_eq_getElem (by rw [← HN.out]; omega)⟩
                obtain ⟨g2, hg2, hc0⟩ := flat_row tokC (fun x => rfl) HO3.out HN.out hx0
                cases hg2
                have z4 : wr.cell? ⟨g, k * 5 + 4, none⟩ = some (.int .i64 (p0 : Int)) := cell_below hb (hc0 4 _ (by omega) rfl)
                have hup := rise_up HR.out hx0 hx
                have l3 : decide ((p : Int) ≤ (p0 : Int)) = false := decide_eq_false (by omega)
                have l3' : decide (p ≤ p0) = false := decide_eq_false (by omega)
                have hw2 : IntKind.i64.wrap (((k + 1 : Nat) : Int) - 1) = (k : Int) := by rw [IntWalk.i64_in _ (by omega)]; omega
                clear hb hy hc0 hx0 hx hup hc hc'
                go_wp2_with fail
                go_quiet (fail)
                go_wp2_with fail
                go_roundw
                case rel => exact ⟨k + 2, by omega, by simp [Int.add_assoc], HB.out.trans ⟨rfl, rfl, rfl, Nat.le_refl _, fun _ _ => rfl⟩⟩
                case measure => (simp [intOf] <;> omega)
            · have hkn : k = n := by omega
              subst hkn
              have hd : decide ((k : Int) < (k : Int)) = false := decide_eq_false (by omega)
              clear hb hlt hk
              go_wp2_with fail
              go_ret
              exact ⟨rfl, HB3.out.trans (HB.out.mono HB3.out.size)⟩
end Go.Proofs.YtdfjhhhbkgelaaaGreatDoor.V
