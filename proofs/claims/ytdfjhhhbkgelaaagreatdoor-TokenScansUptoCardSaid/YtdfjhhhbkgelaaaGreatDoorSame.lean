/- lambrequinref05.Same of two lists that are the same. -/
import Derived.Test.YtdfjhhhbkgelaaaGreatDoorShow5
import Derived.BigQuiet
import Derived.Deep.QuietTactic
namespace Go.Proofs.YtdfjhhhbkgelaaaGreatDoor.V
set_option linter.unusedVariables false
set_option linter.unusedSimpArgs false
open Go.RowKit

def SameG (pl : Bool) (L M : List GT) : Prop := ∀ (j : Nat) (t u : GT), L[j]? = some t → M[j]? = some u → t.k = u.k ∧ t.s = u.s ∧ t.n = u.n ∧ t.q = u.q ∧ (pl = true → t.p = u.p)
theorem sameG_of {L M : List TP'} (h : L.map Prod.fst = M.map Prod.fst) : SameG false (L.map gtOf) (M.map gtOf) := by
  intro j t u ht hu
  rw [List.getElem?_map, Option.map_eq_some_iff] at ht hu
  obtain ⟨p, hp, rfl⟩ := ht
  obtain ⟨q, hq, rfl⟩ := hu
  have h1 := congrArg (fun l => l[j]?) h
  simp only [List.getElem?_map, hp, hq, Option.map_some, Option.some.injEq] at h1
  unfold gtOf
  rw [h1]
  exact ⟨rfl, rfl, rfl, rfl, fun e => by cases e⟩

set_option maxRecDepth 100000 in
set_option maxHeartbeats 8000000 in
theorem same5_calls (pl : Bool) (A B : Option Addr) (n c d : Nat) (L M : List GT) (w : World) (hL : n = L.length) (hM : n = M.length) (hn2 : n ≤ 9223372036854775806) (h1 : ToksAt w A L) (h2 : ToksAt w B M) (hs : SameG pl L M) :
    Calls Tryz.prog 13 #[.slice A n c, .slice B n d, .bool pl] w fun e w' => e = .returned (.bool true) ∧ Below w.heap.size w w' := by
  have H1 := Lib.hid h1
  have H2 := Lib.hid h2
  have HS := Lib.hid hs
  have HL := Lib.hid hL
  have HM := Lib.hid hM
  have hnn : ((n : Int) != (n : Int)) = false := by simp
  clear h1 h2 hs hL hM
  go_enter Tryz.func13, Tryz.ntmps13
  go_wp2_with fail
  go_loopw [7] (fun i wr => ∃ j : Nat, j ≤ n ∧ i = .int .i64 (j : Int) ∧ Below w.heap.size w wr) (fun i _ => n + 1 - (intOf i).toNat)
  case atStart => exact ⟨0, Nat.zero_le _, rfl, Below.refl _ _⟩
  case round =>
    obtain ⟨j, hj, rfl, hbb⟩ := hrel
    have HB := Lib.hid hbb
    by_cases hlt : j < n
    · have hd : decide ((j : Int) < (n : Int)) = true := decide_eq_true (by omega)
      obtain ⟨t, hx⟩ : ∃ t, L[j]? = some t := ⟨_, List.getElem?_eq_getElem (by rw [← HL.out]; exact hlt)⟩
      obtain ⟨u, hy⟩ : ∃ u, M[j]? = some u := ⟨_, List.getElem?_eq_getElem (by rw [← HM.out]; exact hlt)⟩
      obtain ⟨a, rfl, ha⟩ := H1.out j t hx
      obtain ⟨b, rfl, hb⟩ := H2.out j u hy
      obtain ⟨e1, e2, e3, e4, e5⟩ := HS.out j t u hx hy
      obtain ⟨tk, ts, tn, tq, tp⟩ := t
      obtain ⟨uk, us, un, uq, up⟩ := u
      dsimp only at e1 e2 e3 e4 e5
      subst e1 e2 e3 e4
      have ha := ha.below hbb
      have hb := hb.below hbb
      have a0 := ha.c0; have a1 := ha.c1; have a2 := ha.c2; have a3 := ha.c3; have a4 := ha.c4
      have b0 := hb.c0; have b1 := hb.c1; have b2 := hb.c2; have b3 := hb.c3; have b4 := hb.c4
      have n0 : (tk != tk) = false := by simp
      have n1 : (ts.toList != ts.toList) = false := by simp
      have n2 : (tn != tn) = false := by simp
      have n3 : (tq != tq) = false := by simp
      clear ha hb hx hy hbb
      cases pl with
      | false =>
        clear e5
        go_wp2_with fail
        go_quiet (fail)
        go_wp2_with fail
        go_roundw
        case rel => exact ⟨j + 1, hlt, by simp, HB.out.trans ⟨rfl, rfl, rfl, Nat.le_refl _, fun _ _ => rfl⟩⟩
        case measure => simp [intOf]; omega
      | true =>
        have e6 := e5 rfl
        subst e6
        have n4 : (tp != tp) = false := by simp
        clear e5
        go_wp2_with fail
        go_quiet (fail)
        go_wp2_with fail
        go_roundw
        case rel => exact ⟨j + 1, hlt, by simp, HB.out.trans ⟨rfl, rfl, rfl, Nat.le_refl _, fun _ _ => rfl⟩⟩
        case measure => simp [intOf]; omega
    · have hjn : j = n := by omega
      subst hjn
      have hd : decide ((j : Int) < (j : Int)) = false := decide_eq_false (by omega)
      clear hlt hj hbb
      go_wp2_with fail
      go_ret
      exact ⟨rfl, HB.out⟩
end Go.Proofs.YtdfjhhhbkgelaaaGreatDoor.V
