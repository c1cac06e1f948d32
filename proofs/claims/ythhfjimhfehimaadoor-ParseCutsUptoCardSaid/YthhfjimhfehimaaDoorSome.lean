/- (*parser).some: things with commas between, whatever parses one. -/
import Derived.Test.YthhfjimhfehimaaDoorMk
namespace Go.Proofs.YthhfjimhfehimaaDoor.V
set_option linter.unusedVariables false
set_option linter.unusedSimpArgs false
open Go.RowKit

def Par.pre {α : Type} (acc : List α) : Par (List α) → Par (List α)
  | .bad a e => .bad a e
  | .ok xs r => .ok (acc ++ xs) r
theorem pre_nil {α : Type} (p : Par (List α)) : Par.pre [] p = p := by cases p <;> rfl
theorem some_zero {α : Type} (one : List TP → Par α) (N : Nat) (r : List TP) : someP one N 0 r = .bad (pk N r 0).2 4 := rfl
theorem some_bad {α : Type} {one : List TP → Par α} {N m : Nat} {r : List TP} {a e : Nat} (h : one r = .bad a e) : someP one N (m + 1) r = .bad a e := by
  rw [someP, h]
theorem some_last {α : Type} {one : List TP → Par α} {N m : Nat} {r r1 : List TP} {x : α} (h : one r = .ok x r1) (hc : isM N r1 0 [44] = false) : someP one N (m + 1) r = .ok [x] r1 := by
  rw [someP, h]
  simp [hc]
theorem some_more {α : Type} {one : List TP → Par α} {N m : Nat} {r r1 : List TP} {x : α} {acc : List α} (h : one r = .ok x r1) (hc : isM N r1 0 [44] = true) : Par.pre acc (someP one N (m + 1) r) = Par.pre (acc ++ [x]) (someP one N m r1.tail) := by
  rw [someP, h]
  simp only [hc, if_true]
  cases someP one N m r1.tail <;> simp [Par.pre]
theorem comma_in {N : Nat} {L : List TP} {nx : Nat} {mb : List UInt8} (h : isM N (L.drop nx) 0 mb = true) : nx < L.length := by
  unfold isM at h
  simp only [Bool.and_eq_true, beq_iff_eq] at h
  by_cases hl : nx < L.length
  · exact hl
  · rw [pk_out (by omega)] at h
    exact absurd h.1 (by simp [eofT])

set_option maxRecDepth 100000 in
set_option maxHeartbeats 8000000 in
theorem some_calls {α : Type} {P : Nat} {L : List TP} {N : Nat} {A : Option Addr} {c : Nat} (F : Nat) (lb : Array Value) (eF : ∀ args w, (callFunc F args).run Tryd.prog w = .ok (.enter F args) w) (one : List TP → Par α) (J : World → List α → Prop)
    (hJ : ∀ w w' acc, J w acc → w.grownBy w' (some P) → J w' acc) (m : Nat) (hm : m + 1 ≤ 1000000) (hm2 : 65537 ≤ m)
    (hone : ∀ w acc r, acc.length ≤ 100 → PO P L N A c r w → J w acc → Calls Tryd.prog F lb w fun e w' => e = .returned (.tuple #[]) ∧ ∃ x, J w' (acc ++ [x]) ∧ PGot P L N A c m (one r) (fun y => y = x) w')
    (n : Nat) (hn : n ≤ 100) (r : List TP) (w : World) (h : PO P L N A c r w) (hj : J w []) :
    Calls Tryd.prog 24 #[.pointer (some ⟨P, 0, none⟩), .int .i64 (n : Int), .func (.func F) #[] lb] w fun e w' => e = .returned (.tuple #[]) ∧ ∃ acc, J w' acc ∧ PGot P L N A c (m + 1) (someP one N n r) (fun l => l = acc) w' := by
  have HJ := Lib.hid hJ
  have HONE := Lib.hid hone
  have H := Lib.hid h
  have HJ0 := Lib.hid hj
  clear hJ hone h hj
  go_enter Tryd.func24, Tryd.ntmps24
  go_wp2_with fail
  go_loopw [6] (fun v wr => ∃ acc, v = .int .i64 (acc.length : Int) ∧ J wr acc ∧ ((acc.length ≤ n ∧ ∃ r', PO P L N A c r' wr ∧ someP one N n r = Par.pre acc (someP one N (n - acc.length) r')) ∨ (acc.length ≤ n ∧ ∃ a e, PB P L N A c a e (m + 1) wr ∧ someP one N n r = .bad a e))) (fun v _ => n + 1 - (intOf v).toNat)
  case atStart => exact ⟨[], rfl, HJ0.out, .inl ⟨Nat.zero_le _, r, H.out, by rw [pre_nil]; rfl⟩⟩
  case round =>
    obtain ⟨acc, rfl, hj, hst⟩ := hrel
    have HJR := Lib.hid hj
    clear hj
    rcases hst with ⟨hln, r', hpo, heq⟩ | ⟨hln, a, e, hpb, heq⟩
    · obtain ⟨nx, hnx, rfl, hS⟩ := hpo
      have HEQ := Lib.hid heq
      have HS := Lib.hid hS
      have HN := Lib.hid hS.n
      have HNX := Lib.hid hnx
      clear heq hS hnx
      by_cases hlt : acc.length < n
      · have hd : ((acc.length : Int) == (n : Int)) = false := by simp; omega
        cases ho : one (L.drop nx) with
        | bad a e =>
          have HF := Lib.hid (show someP one N n r = .bad a e by
            rw [HEQ.out, show n - acc.length = (n - acc.length - 1) + 1 by omega, some_bad ho]
            rfl)
          have HO := Lib.hid ho
          have HC := Lib.hid (HONE.out wr acc (L.drop nx) (by omega) ⟨nx, HNX.out, rfl, HS.out⟩ HJR.out)
          clear ho
          go_wp2_with (first
            | (go_at_call 12; ((with_reducible refine (pok_calls true _ HS.out rfl).mono ?_); rintro e w1 ⟨rfl, rfl⟩))
            | (go_at_fn F; (refine HC.out.mono ?_); rintro e w1 ⟨rfl, x, hj1, hg1⟩; rw [HO.out] at hg1; obtain ⟨he0, nx1, hnx1, hS1⟩ := hg1; have HE0 := Lib.hid he0; have HJ1 := Lib.hid hj1; have HNX1 := Lib.hid hnx1; have HS1 := Lib.hid hS1; clear he0 hj1 hnx1 hS1; refine RowKit.Hid.out ?_))
          refine Lib.hid ?_
          cases hv : isM N (L.drop nx1) 0 [44] with
          | false =>
            have HV := Lib.hid (show isM N (L.drop nx1) 0 (⟨#[44]⟩ : ByteArray).data.toList = false from hv)
            clear hv
            go_wp2_with (go_at_call 23; ((with_reducible refine (is_calls ⟨#[44]⟩ false _ HS1.out HV.out).mono ?_); rintro e w2 ⟨rfl, hb2⟩; have HS2 := Lib.hid (HS1.out.below hb2); have HB2 := Lib.hid hb2; clear hb2))
            refine bodyPost_ret (results_none rfl _ _ _) rfl ?_
            refine ⟨rfl, acc ++ [x], HJ.out _ _ _ HJ1.out (grown_below HB2.out _), ?_⟩
            rw [HF.out]
            exact ⟨HE0.out, nx1, by have := HNX1.out; omega, HS2.out⟩
          | true =>
            have HV := Lib.hid (show isM N (L.drop nx1) 0 (⟨#[44]⟩ : ByteArray).data.toList = true from hv)
            have HIN := Lib.hid (comma_in hv)
            obtain ⟨⟨⟨k, s, n3, q⟩, a3⟩, hp⟩ : ∃ p, pk N (L.drop nx1) 0 = p := ⟨_, rfl⟩
            have HP := Lib.hid hp
            have HX := Lib.hid (show nx1 + 1 ≤ 1000000 by have := HIN.out; have := HN.out; omega)
            clear hv hp
            go_wp2_with (first
              | (go_at_call 23; ((with_reducible refine (is_calls ⟨#[44]⟩ true _ HS1.out HV.out).mono ?_); rintro e w2 ⟨rfl, hb2⟩; have HS2 := Lib.hid (HS1.out.below hb2); have HB2 := Lib.hid hb2; clear hb2))
              | (go_at_call 20; ((with_reducible refine (takeA_calls _ k s n3 q a3 _ HS2.out HX.out HP.out rfl).mono ?_); rintro e w3 ⟨rfl, hs3, hg3⟩; have HS3 := Lib.hid hs3; have HG3 := Lib.hid hg3; clear hs3 hg3)))
            go_roundw
            case rel => exact ⟨acc ++ [x], by simp, HJ.out _ _ _ HJ1.out (grown_trans (grown_below HB2.out _) HG3.out), .inr ⟨by simp; omega, a, e, ⟨HE0.out, nx1 + 1, by have := HNX1.out; omega, HS3.out⟩, HF.out⟩⟩
            case measure => simp [intOf]; omega
        | ok x0 r1 =>
          have HO := Lib.hid ho
          have HC := Lib.hid (HONE.out wr acc (L.drop nx) (by omega) ⟨nx, HNX.out, rfl, HS.out⟩ HJR.out)
          obtain ⟨⟨⟨k, s, n3, q⟩, a3⟩, hp⟩ : ∃ p, pk N r1 0 = p := ⟨_, rfl⟩
          have HP0 := Lib.hid hp
          clear hp
          cases hv : isM N r1 0 [44] with
          | false =>
            have HF := Lib.hid (show someP one N n r = .ok (acc ++ [x0]) r1 by
              rw [HEQ.out, show n - acc.length = (n - acc.length - 1) + 1 by omega, some_last ho hv]
              rfl)
            have HV0 := Lib.hid hv
            clear ho hv
            go_wp2_with (first
              | (go_at_call 12; ((with_reducible refine (pok_calls true _ HS.out rfl).mono ?_); rintro e w1 ⟨rfl, rfl⟩))
              | (go_at_fn F; (refine HC.out.mono ?_); rintro e w1 ⟨rfl, x, hj1, hg1⟩; rw [HO.out] at hg1; obtain ⟨hxx, nx1, hnx1, hr1, hS1⟩ := hg1; have HXX := Lib.hid hxx; have HJ1 := Lib.hid hj1; have HNX1 := Lib.hid hnx1; have HS1 := Lib.hid hS1; have HR1 := Lib.hid hr1; have HV := Lib.hid (show isM N (L.drop nx1) 0 (⟨#[44]⟩ : ByteArray).data.toList = false by rw [hr1]; exact HV0.out); clear hxx hj1 hnx1 hS1 hr1)
              | (go_at_call 23; ((with_reducible refine (is_calls ⟨#[44]⟩ false _ HS1.out HV.out).mono ?_); rintro e w2 ⟨rfl, hb2⟩; have HS2 := Lib.hid (HS1.out.below hb2); have HB2 := Lib.hid hb2; clear hb2)))
            refine bodyPost_ret (results_none rfl _ _ _) rfl ?_
            refine ⟨rfl, acc ++ [x], HJ.out _ _ _ HJ1.out (grown_below HB2.out _), ?_⟩
            rw [HF.out]
            exact ⟨by rw [HXX.out], nx1, HNX1.out, HR1.out, HS2.out⟩
          | true =>
            have HF := Lib.hid (show someP one N n r = Par.pre (acc ++ [x0]) (someP one N (n - (acc.length + 1)) r1.tail) by
              rw [HEQ.out, show n - acc.length = (n - acc.length - 1) + 1 by omega, some_more ho hv]
              congr 2
              )
            have HV0 := Lib.hid hv
            clear ho hv
            go_wp2_with (first
              | (go_at_call 12; ((with_reducible refine (pok_calls true _ HS.out rfl).mono ?_); rintro e w1 ⟨rfl, rfl⟩))
              | (go_at_fn F; (refine HC.out.mono ?_); rintro e w1 ⟨rfl, x, hj1, hg1⟩; rw [HO.out] at hg1; obtain ⟨hxx, nx1, hnx1, hr1, hS1⟩ := hg1; have HXX := Lib.hid hxx; have HJ1 := Lib.hid hj1; have HS1 := Lib.hid hS1; have HR1 := Lib.hid hr1; have hv1 : isM N (L.drop nx1) 0 [44] = true := (by rw [hr1]; exact HV0.out); have HV := Lib.hid (show isM N (L.drop nx1) 0 (⟨#[44]⟩ : ByteArray).data.toList = true from hv1); have HIN := Lib.hid (comma_in hv1); have HX := Lib.hid (show nx1 + 1 ≤ 1000000 by have := HIN.out; have := HN.out; omega); have HP := Lib.hid (show pk N (L.drop nx1) 0 = (⟨k, s, n3, q⟩, a3) by rw [hr1]; exact HP0.out); clear hxx hj1 hnx1 hS1 hr1 hv1)
              | (go_at_call 23; ((with_reducible refine (is_calls ⟨#[44]⟩ true _ HS1.out HV.out).mono ?_); rintro e w2 ⟨rfl, hb2⟩; have HS2 := Lib.hid (HS1.out.below hb2); have HB2 := Lib.hid hb2; clear hb2))
              | (go_at_call 20; ((with_reducible refine (takeA_calls _ k s n3 q a3 _ HS2.out HX.out HP.out rfl).mono ?_); rintro e w3 ⟨rfl, hs3, hg3⟩; have HS3 := Lib.hid hs3; have HG3 := Lib.hid hg3; clear hs3 hg3)))
            go_roundw
            case rel => exact ⟨acc ++ [x], by simp, HJ.out _ _ _ HJ1.out (grown_trans (grown_below HB2.out _) HG3.out), .inl ⟨by simp; omega, r1.tail, ⟨nx1 + 1, HIN.out, by rw [← HR1.out, List.tail_drop], HS3.out⟩, by rw [HF.out, HXX.out, List.length_append, List.length_singleton]⟩⟩
            case measure => simp [intOf]; omega
      · have hd : ((acc.length : Int) == (n : Int)) = true := by simp; omega
        obtain ⟨⟨⟨k, s, n3, q⟩, a3⟩, hp⟩ : ∃ p, pk N (L.drop nx) 0 = p := ⟨_, rfl⟩
        have HP := Lib.hid hp
        have HF := Lib.hid (show someP one N n r = .bad a3 4 by
          rw [HEQ.out, show n - acc.length = 0 by omega, some_zero, hp]
          rfl)
        clear hp
        go_wp2_with (first
          | (go_at_call 12; ((with_reducible refine (pok_calls true _ HS.out rfl).mono ?_); rintro e w1 ⟨rfl, rfl⟩))
          | (go_at_call 16; ((with_reducible refine (peek0_calls ⟨k, s, n3, q⟩ a3 _ HS.out HP.out).mono ?_); rintro e w2 ⟨rfl, hb2⟩; have HS2 := Lib.hid (HS.out.below hb2); have HB2 := Lib.hid hb2; clear hb2))
          | (go_at_call 15; ((with_reducible refine (fail_ok_calls _ (bs s) n3 q a3 4 _ HS2.out).mono ?_); rintro e w3 ⟨rfl, hs3, hg3⟩; have HS3 := Lib.hid hs3; have HG3 := Lib.hid hg3; clear hs3 hg3)))
        refine bodyPost_ret (results_none rfl _ _ _) rfl ?_
        refine ⟨rfl, acc, HJ.out _ _ _ HJR.out (grown_trans (grown_below HB2.out _) HG3.out), ?_⟩
        rw [HF.out]
        exact ⟨by omega, nx, by have := HNX.out; have := HN.out; omega, HS3.out⟩
    · obtain ⟨he0, nx, hnx, hS⟩ := hpb
      have HS := Lib.hid hS
      have HF := Lib.hid heq
      have HE0 := Lib.hid he0
      have HNX := Lib.hid hnx
      have HBB := Lib.hid (show ((e : Int) == 0) = false by simp; omega)
      clear hS heq he0 hnx
      go_wp2_with (first
        | (go_at_call 12; ((with_reducible refine (pok_calls false _ HS.out HBB.out).mono ?_); rintro e w1 ⟨rfl, rfl⟩)))
      go_end0
      refine ⟨rfl, acc, HJR.out, ?_⟩
      rw [HF.out]
      exact ⟨HE0.out, nx, HNX.out, HS.out⟩
theorem someI_calls {α : Type} {P : Nat} {L : List TP} {N : Nat} {A : Option Addr} {c : Nat} (F : Nat) (lb : Array Value) (eF : ∀ args w, (callFunc F args).run Tryd.prog w = .ok (.enter F args) w) (one : List TP → Par α) (J : World → List α → Prop)
    (hJ : ∀ w w' acc, J w acc → w.grownBy w' (some P) → J w' acc) (m : Nat) (hm : m + 1 ≤ 1000000) (hm2 : 65537 ≤ m)
    (hone : ∀ w acc r, acc.length ≤ 100 → PO P L N A c r w → J w acc → Calls Tryd.prog F lb w fun e w' => e = .returned (.tuple #[]) ∧ ∃ x, J w' (acc ++ [x]) ∧ PGot P L N A c m (one r) (fun y => y = x) w')
    (n : Nat) (nI : Int) (hI : (n : Int) = nI) (hn : n ≤ 100) (r : List TP) (w : World) (h : PO P L N A c r w) (hj : J w []) :
    Calls Tryd.prog 24 #[.pointer (some ⟨P, 0, none⟩), .int .i64 nI, .func (.func F) #[] lb] w fun e w' => e = .returned (.tuple #[]) ∧ ∃ acc, J w' acc ∧ PGot P L N A c (m + 1) (someP one N n r) (fun l => l = acc) w' := by
  rw [← hI]
  exact some_calls F lb eF one J hJ m hm hm2 hone n hn r w h hj
end Go.Proofs.YthhfjimhfehimaaDoor.V
