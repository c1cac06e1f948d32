/- The document's atom. (printed by gen_r6c.py) The document's atom with terms: its loop. (printed by gen_r6d.py) The document's small functions of bytes, and its Skip. The document's quoted: a name in marks. Figures and their number: with no program in sight. -/
import Derived.BigQuiet
import Derived.Deep.QuietTactic
import Derived.Deep.RegionWith
import Derived.Lib.ParseIntBCases
import Derived.Lib.ItoaNum
import Derived.Test.YtminbdcabacfbaaGreatDoorKAtoms4
namespace Go.Proofs.YtminbdcabacfbaaGreatDoor.V
set_option linter.unusedVariables false
set_option linter.unusedSimpArgs false
open Go.RowKit

/-- What the document's atom hands back. -/
def RAtomIs (N : Nat) (L : List TP) (i : Nat) (base : Nat) (e : Ending) (w' : World) : Prop := match atomP N (L.drop i) with
  | .bad a b => ∃ v0 Aa na ca, e = .returned (.tuple #[.agg #[.string v0, .slice Aa na ca], .agg #[.int .i64 0, .int .i64 (b : Int), .int .i64 (a : Int)]])
  | .ok x r => ∃ (j : Nat) (Aa : Option Addr) (na ca : Nat), na = x.a.length ∧ r = L.drop j ∧ j ≤ L.length ∧ e = .returned (.tuple #[.agg #[.string (bs x.p), .slice Aa na ca], .agg #[.int .i64 (j : Int), .int .i64 0, .int .i64 0]]) ∧ TermsAt base w' x.a (.slice Aa na ca)
theorem nameP_eq {N : Nat} {r : List TP} {t : Tok} {a : Nat} (hp : pk N r 0 = (t, a)) : nameP N r = if t.k == 1 && !t.q && plainL t.s then .ok t.s r.tail else .bad a 2 := by
  unfold nameP
  rw [hp]
theorem drop_tail {L : List TP} {i : Nat} : (L.drop i).tail = L.drop (i + 1) := by rw [List.tail_drop]

set_option maxRecDepth 100000 in
set_option maxHeartbeats 16000000 in
theorem ratom_name (A : Option Addr) (n c : Nat) (L : List TP) (N i : Nat) (t : Tok) (a : Nat) (w : World) (h : TkAt w A n L) (hp : pk N (L.drop i) 0 = (t, a)) (hs : t.s.length ≤ 1048576) (hi : i ≤ 1000000) (hv : (t.k == 1 && !t.q && plainL t.s) = false) :
    Calls Tryz.prog 38 #[.agg #[.slice A n c, .int .i64 (N : Int)], .int .i64 (i : Int)] w fun e w' => Below w.heap.size w w' ∧ RAtomIs N L i w.heap.size e w' := by
  have hb0 := (((Below.refl w.heap.size w).alloc (Nat.le_refl _) (.cells #[.slice A n c, .int .i64 (N : Int)] 80)).alloc (by simp) (.cells #[.string ⟨#[]⟩, .slice none 0 0] 25)).alloc (by simp; omega) (.cells #[.int .i64 0, .int .i64 0, .int .i64 0] 76)
  have HB0 := Lib.hid hb0
  have HT0 := Lib.hid (h.below hb0)
  have HS0 := Lib.hid (show IsSt (w.heap.size + 1 + 1) (.int .i64 0) (.int .i64 0) (.int .i64 0) (((w.alloc (.cells #[.slice A n c, .int .i64 (N : Int)] 80)).alloc (.cells #[.string ⟨#[]⟩, .slice none 0 0] 25)).alloc (.cells #[.int .i64 0, .int .i64 0, .int .i64 0] 76)) from by have h := IsSt.new (v0 := .int .i64 0) (v1 := .int .i64 0) (v2 := .int .i64 0) ((w.alloc (.cells #[.slice A n c, .int .i64 (N : Int)] 80)).alloc (.cells #[.string ⟨#[]⟩, .slice none 0 0] 25)); rwa [World.size_alloc, World.size_alloc] at h)
  have HM0 := Lib.hid (show IsAt (w.heap.size + 1) (.string ⟨#[]⟩) (.slice none 0 0) (((w.alloc (.cells #[.slice A n c, .int .i64 (N : Int)] 80)).alloc (.cells #[.string ⟨#[]⟩, .slice none 0 0] 25)).alloc (.cells #[.int .i64 0, .int .i64 0, .int .i64 0] 76)) from by have h := IsAt.new (v0 := .string ⟨#[]⟩) (v1 := .slice none 0 0) (w.alloc (.cells #[.slice A n c, .int .i64 (N : Int)] 80)); rw [World.size_alloc] at h; exact h.alloc _)
  have HNM := Lib.hid (fun (W : World) (h : TkAt W A n L) => (show Calls Tryz.prog 68 #[.agg #[.slice A n c, .int .i64 (N : Int)], .int .i64 (i : Int)] W (fun e w' => Below W.heap.size W w' ∧ e = .returned (.tuple #[.string ⟨#[]⟩, .agg #[.int .i64 0, .int .i64 2, .int .i64 (a : Int)]])) from by
    have h2 := rname_calls A n c L N i t a W h hp hs hi
    unfold rnameV at h2
    rw [hv, if_neg (by decide)] at h2
    exact h2))
  have HR := Lib.hid (show atomP N (L.drop i) = .bad a 2 from by unfold atomP; rw [nameP_eq hp, hv]; rfl)
  clear h hp hb0 hv
  go_enter Tryz.func38, Tryz.ntmps38
  go_wp2_with (go_at_call 68; ((with_reducible refine (HNM.out _ HT0.out).mono ?_); rintro e w1 ⟨hb1, rfl⟩; have hz := hb1.size; simp only [World.size_alloc] at hz; have hn1 : w1.heap.size ≠ w.heap.size + 1 := (by omega); have hn2 : w1.heap.size ≠ w.heap.size + 1 + 1 := (by omega); have hn3 : w.heap.size + 1 ≠ w1.heap.size := (by omega); have hn4 : w.heap.size + 1 + 1 ≠ w1.heap.size := (by omega); clear hz; have t0 := cell_of_row (w1.alloc (.cells #[.int .i64 0, .int .i64 2, .int .i64 (a : Int)] 76)) w1.heap.size 0 _ _ _ (heap_alloc_new w1 _); have t1 := cell_of_row (w1.alloc (.cells #[.int .i64 0, .int .i64 2, .int .i64 (a : Int)] 76)) w1.heap.size 1 _ _ _ (heap_alloc_new w1 _); have t2 := cell_of_row (w1.alloc (.cells #[.int .i64 0, .int .i64 2, .int .i64 (a : Int)] 76)) w1.heap.size 2 _ _ _ (heap_alloc_new w1 _); have HMZ := Lib.hid ((HM0.out.below hb1).alloc (.cells #[.int .i64 0, .int .i64 2, .int .i64 (a : Int)] 76)); have HSZ := Lib.hid ((HS0.out.below hb1).alloc (.cells #[.int .i64 0, .int .i64 2, .int .i64 (a : Int)] 76)); have hbz := HB0.out.trans (hb1.mono HB0.out.size); have HBZ := Lib.hid (hbz.alloc hbz.size (.cells #[.int .i64 0, .int .i64 2, .int .i64 (a : Int)] 76)); have s0 := HSZ.out.c0; have s1 := HSZ.out.c1; have s2 := HSZ.out.c2; have f0 := HSZ.out.fr 0; have f1 := HSZ.out.fr 1; have f2 := HSZ.out.fr 2; have m0 := HMZ.out.c0; have m1 := HMZ.out.c1; have g0 := HMZ.out.fr 0; have g1 := HMZ.out.fr 1; clear hb1 hbz))
  go_region
  go_wp2_with fail
  have hm1 := (HMZ.out.set (.string ⟨#[]⟩) (.slice none 0 0)).farIsSt (T2 := w.heap.size + 1 + 1) (by omega) (.int .i64 0) (.int .i64 2) (.int .i64 (a : Int))
  have hs1 := (HSZ.out.farIsAt (T2 := w.heap.size + 1) (by omega) (.string ⟨#[]⟩) (.slice none 0 0)).set (.int .i64 0) (.int .i64 2) (.int .i64 (a : Int))
  have r0 := hs1.c0
  have r1 := hs1.c1
  have r2 := hs1.c2
  have q0 := hm1.c0
  have q1 := hm1.c1
  refine bodyPost_ret (v := .tuple #[.agg #[.string ⟨#[]⟩, .slice none 0 0], .agg #[.int .i64 0, .int .i64 2, .int .i64 (a : Int)]]) (by simp [results, Tryz.results38, go_sem, r0, r1, r2, q0, q1]) rfl ⟨(below_IsSt (below_IsAt HBZ.out (by omega) _ _) (by omega) _ _ _).drew, ?_⟩
  unfold RAtomIs
  rw [HR.out]
  exact ⟨_, _, _, _, rfl⟩
set_option maxRecDepth 100000 in
set_option maxHeartbeats 16000000 in
theorem ratom_plain (A : Option Addr) (n c : Nat) (L : List TP) (N i : Nat) (t : Tok) (a : Nat) (t2 : Tok) (a2 : Nat) (w : World) (h : TkAt w A n L) (hp : pk N (L.drop i) 0 = (t, a)) (hs : t.s.length ≤ 1048576) (hi : i ≤ 1000000) (hiL : i < L.length) (hv : (t.k == 1 && !t.q && plainL t.s) = true) (hp2 : pk N (L.drop (i + 1)) 0 = (t2, a2)) (hv2 : (t2.k == 4 && t2.s == [40]) = false) :
    Calls Tryz.prog 38 #[.agg #[.slice A n c, .int .i64 (N : Int)], .int .i64 (i : Int)] w fun e w' => Below w.heap.size w w' ∧ RAtomIs N L i w.heap.size e w' := by
  have hb0 := (((Below.refl w.heap.size w).alloc (Nat.le_refl _) (.cells #[.slice A n c, .int .i64 (N : Int)] 80)).alloc (by simp) (.cells #[.string ⟨#[]⟩, .slice none 0 0] 25)).alloc (by simp; omega) (.cells #[.int .i64 0, .int .i64 0, .int .i64 0] 76)
  have HB0 := Lib.hid hb0
  have HT0 := Lib.hid (h.below hb0)
  have HS0 := Lib.hid (show IsSt (w.heap.size + 1 + 1) (.int .i64 0) (.int .i64 0) (.int .i64 0) (((w.alloc (.cells #[.slice A n c, .int .i64 (N : Int)] 80)).alloc (.cells #[.string ⟨#[]⟩, .slice none 0 0] 25)).alloc (.cells #[.int .i64 0, .int .i64 0, .int .i64 0] 76)) from by have h := IsSt.new (v0 := .int .i64 0) (v1 := .int .i64 0) (v2 := .int .i64 0) ((w.alloc (.cells #[.slice A n c, .int .i64 (N : Int)] 80)).alloc (.cells #[.string ⟨#[]⟩, .slice none 0 0] 25)); rwa [World.size_alloc, World.size_alloc] at h)
  have HM0 := Lib.hid (show IsAt (w.heap.size + 1) (.string ⟨#[]⟩) (.slice none 0 0) (((w.alloc (.cells #[.slice A n c, .int .i64 (N : Int)] 80)).alloc (.cells #[.string ⟨#[]⟩, .slice none 0 0] 25)).alloc (.cells #[.int .i64 0, .int .i64 0, .int .i64 0] 76)) from by have h := IsAt.new (v0 := .string ⟨#[]⟩) (v1 := .slice none 0 0) (w.alloc (.cells #[.slice A n c, .int .i64 (N : Int)] 80)); rw [World.size_alloc] at h; exact h.alloc _)
  have HX0 := Lib.hid (show (((w.alloc (.cells #[.slice A n c, .int .i64 (N : Int)] 80)).alloc (.cells #[.string ⟨#[]⟩, .slice none 0 0] 25)).alloc (.cells #[.int .i64 0, .int .i64 0, .int .i64 0] 76)).cell? ⟨w.heap.size, 0, none⟩ = some (.slice A n c) ∧ (((w.alloc (.cells #[.slice A n c, .int .i64 (N : Int)] 80)).alloc (.cells #[.string ⟨#[]⟩, .slice none 0 0] 25)).alloc (.cells #[.int .i64 0, .int .i64 0, .int .i64 0] 76)).cell? ⟨w.heap.size, 1, none⟩ = some (.int .i64 (N : Int)) from by
    have hbx := ((Below.refl (w.alloc (.cells #[.slice A n c, .int .i64 (N : Int)] 80)).heap.size (w.alloc (.cells #[.slice A n c, .int .i64 (N : Int)] 80))).alloc (Nat.le_refl _) (.cells #[.string ⟨#[]⟩, .slice none 0 0] 25)).alloc (by simp) (.cells #[.int .i64 0, .int .i64 0, .int .i64 0] 76)
    exact ⟨cell_below hbx (cell_of_row (w.alloc (.cells #[.slice A n c, .int .i64 (N : Int)] 80)) w.heap.size 0 _ _ _ (heap_alloc_new w _)), cell_below hbx (cell_of_row (w.alloc (.cells #[.slice A n c, .int .i64 (N : Int)] 80)) w.heap.size 1 _ _ _ (heap_alloc_new w _))⟩)
  have HNM := Lib.hid (fun (W : World) (h : TkAt W A n L) => (show Calls Tryz.prog 68 #[.agg #[.slice A n c, .int .i64 (N : Int)], .int .i64 (i : Int)] W (fun e w' => Below W.heap.size W w' ∧ e = .returned (.tuple #[.string (bs t.s), .agg #[.int .i64 ((i : Int) + 1), .int .i64 0, .int .i64 0]])) from by
    have h2 := rname_calls A n c L N i t a W h hp hs hi
    unfold rnameV at h2
    rw [hv, if_pos rfl] at h2
    exact h2))
  have HAT := Lib.hid (fun (W : World) (h : TkAt W A n L) => (show Calls Tryz.prog 70 #[.slice A n c, .int .i64 ((i : Int) + 1), .int .i64 (N : Int)] W (fun e w' => e = .returned (.agg #[.int .i64 (t2.k : Int), .string (bs t2.s), .int .i64 t2.n, .bool t2.q, .int .i64 (a2 : Int)]) ∧ Below W.heap.size W w') from rat_calls A n c L N (i + 1) t2 a2 W h hp2))
  have HMK := Lib.hid (fun (W : World) => (show Calls Tryz.prog 69 #[.agg #[.int .i64 (t2.k : Int), .string (bs t2.s), .int .i64 t2.n, .bool t2.q, .int .i64 (a2 : Int)], .string ⟨#[40]⟩] W (fun e w' => e = .returned (.bool false) ∧ Below W.heap.size W w') from rmark_calls t2.k t2.s t2.n t2.q a2 [40] false W hv2))
  have HR := Lib.hid (show atomP N (L.drop i) = .ok ⟨t.s, []⟩ (L.drop (i + 1)) from by
    unfold atomP
    rw [nameP_eq hp, hv, if_pos rfl, drop_tail]
    dsimp only
    rw [show isM N (L.drop (i + 1)) 0 [40] = false from by unfold isM; rw [hp2]; exact hv2, if_neg (by decide)])
  clear h hp hb0 hv hp2 hv2
  go_enter Tryz.func38, Tryz.ntmps38
  go_wp2_with (first
    | (go_at_call 68; ((with_reducible refine (HNM.out _ HT0.out).mono ?_); rintro e w1 ⟨hb1, rfl⟩; have HZ := Lib.hid (show w.heap.size + 1 + 1 + 1 ≤ w1.heap.size from by have hz := hb1.size; simp only [World.size_alloc] at hz; exact hz); have HT1 := Lib.hid ((HT0.out.below hb1).below ((Below.refl w1.heap.size w1).alloc (Nat.le_refl _) (.cells #[.int .i64 ((i : Int) + 1), .int .i64 0, .int .i64 0] 76))); have HX1 := Lib.hid (And.intro (cell_below ((Below.refl w1.heap.size w1).alloc (Nat.le_refl _) (.cells #[.int .i64 ((i : Int) + 1), .int .i64 0, .int .i64 0] 76)) (cell_below hb1 HX0.out.1)) (cell_below ((Below.refl w1.heap.size w1).alloc (Nat.le_refl _) (.cells #[.int .i64 ((i : Int) + 1), .int .i64 0, .int .i64 0] 76)) (cell_below hb1 HX0.out.2))); have HM1 := Lib.hid ((HM0.out.below hb1).alloc (.cells #[.int .i64 ((i : Int) + 1), .int .i64 0, .int .i64 0] 76)); have HS1 := Lib.hid ((HS0.out.below hb1).alloc (.cells #[.int .i64 ((i : Int) + 1), .int .i64 0, .int .i64 0] 76)); have HK1 := Lib.hid (IsSt.new (v0 := .int .i64 ((i : Int) + 1)) (v1 := .int .i64 0) (v2 := .int .i64 0) w1); have HB1 := Lib.hid ((HB0.out.trans (hb1.mono HB0.out.size)).alloc (Nat.le_trans HB0.out.size hb1.size) (.cells #[.int .i64 ((i : Int) + 1), .int .i64 0, .int .i64 0] 76)); have s0 := HS1.out.c0; have s1 := HS1.out.c1; have s2 := HS1.out.c2; have f0 := HS1.out.fr 0; have f1 := HS1.out.fr 1; have f2 := HS1.out.fr 2; have m0 := HM1.out.c0; have m1 := HM1.out.c1; have g0 := HM1.out.fr 0; have g1 := HM1.out.fr 1; have t0 := HK1.out.c0; have t1 := HK1.out.c1; have t2 := HK1.out.c2; have x0 := HX1.out.1; have x1 := HX1.out.2; clear hb1))
    | (go_at_call 70; ((with_reducible refine (HAT.out _ HT1.out).mono ?_); rintro e w2 ⟨rfl, hb2⟩; have HT2 := Lib.hid (HT1.out.below hb2); have HX2 := Lib.hid (And.intro (cell_below hb2 HX1.out.1) (cell_below hb2 HX1.out.2)); have HM2 := Lib.hid (HM1.out.below hb2); have HS2 := Lib.hid (HS1.out.below hb2); have HK2 := Lib.hid (HK1.out.below hb2); have HB2 := Lib.hid (HB1.out.trans (hb2.mono HB1.out.size)); have s0 := HS2.out.c0; have s1 := HS2.out.c1; have s2 := HS2.out.c2; have f0 := HS2.out.fr 0; have f1 := HS2.out.fr 1; have f2 := HS2.out.fr 2; have m0 := HM2.out.c0; have m1 := HM2.out.c1; have g0 := HM2.out.fr 0; have g1 := HM2.out.fr 1; have t0 := HK2.out.c0; have t1 := HK2.out.c1; have t2 := HK2.out.c2; have x0 := HX2.out.1; have x1 := HX2.out.2; clear hb2))
    | (go_at_call 69; ((with_reducible refine (HMK.out _).mono ?_); rintro e w3 ⟨rfl, hb3⟩; have HT3 := Lib.hid (HT2.out.below hb3); have HX3 := Lib.hid (And.intro (cell_below hb3 HX2.out.1) (cell_below hb3 HX2.out.2)); have HMZ := Lib.hid (HM2.out.below hb3); have HSZ := Lib.hid (HS2.out.below hb3); have HKZ := Lib.hid (HK2.out.below hb3); have HBZ := Lib.hid (HB2.out.trans (hb3.mono HB2.out.size)); have s0 := HSZ.out.c0; have s1 := HSZ.out.c1; have s2 := HSZ.out.c2; have f0 := HSZ.out.fr 0; have f1 := HSZ.out.fr 1; have f2 := HSZ.out.fr 2; have m0 := HMZ.out.c0; have m1 := HMZ.out.c1; have g0 := HMZ.out.fr 0; have g1 := HMZ.out.fr 1; have t0 := HKZ.out.c0; have t1 := HKZ.out.c1; have t2 := HKZ.out.c2; have x0 := HX3.out.1; have x1 := HX3.out.2; clear hb3)))
  have hn1 : w1.heap.size ≠ w.heap.size + 1 := by have := HZ.out; omega
  have hn2 : w1.heap.size ≠ w.heap.size + 1 + 1 := by have := HZ.out; omega
  have hn3 : w.heap.size + 1 ≠ w1.heap.size := by have := HZ.out; omega
  have hn4 : w.heap.size + 1 + 1 ≠ w1.heap.size := by have := HZ.out; omega
  go_region
  go_wp2_with fail
  have hm1 := (HMZ.out.set (.string (bs t.s)) (.slice none 0 0)).farIsSt (T2 := w.heap.size + 1 + 1) (by omega) (.int .i64 ((i : Int) + 1)) (.int .i64 0) (.int .i64 0)
  have hs1 := (HSZ.out.farIsAt (T2 := w.heap.size + 1) (by omega) (.string (bs t.s)) (.slice none 0 0)).set (.int .i64 ((i : Int) + 1)) (.int .i64 0) (.int .i64 0)
  have r0 := hs1.c0
  have r1 := hs1.c1
  have r2 := hs1.c2
  have q0 := hm1.c0
  have q1 := hm1.c1
  refine bodyPost_ret (v := .tuple #[.agg #[.string (bs t.s), .slice none 0 0], .agg #[.int .i64 ((i : Int) + 1), .int .i64 0, .int .i64 0]]) (by simp [results, Tryz.results38, go_sem, r0, r1, r2, q0, q1]) rfl ⟨(below_IsSt (below_IsAt HBZ.out (by omega) _ _) (by omega) _ _ _).drew, ?_⟩
  unfold RAtomIs
  rw [HR.out]
  exact ⟨i + 1, none, 0, 0, rfl, rfl, hiL, rfl, World.ownsRow_nil _ _ _ _⟩
end Go.Proofs.YtminbdcabacfbaaGreatDoor.V

namespace Go.Proofs.YtminbdcabacfbaaGreatDoor.V
set_option linter.unusedVariables false
set_option linter.unusedSimpArgs false
open Go.RowKit

def sapp (xs : List TermL) : Par (List TermL) → Par (List TermL)
  | .bad a e => .bad a e
  | .ok ys r => .ok (xs ++ ys) r
theorem sapp_nil (p : Par (List TermL)) : sapp [] p = p := by cases p <;> rfl
theorem sapp_sapp (xs ys : List TermL) (p : Par (List TermL)) : sapp xs (sapp ys p) = sapp (xs ++ ys) p := by cases p <;> simp [sapp]
/-- A term, by the token that stands there. -/
theorem termP_eq {N : Nat} {r : List TP} {t : Tok} {a : Nat} (hp : pk N r 0 = (t, a)) : termP N r =
    if t.k == 2 then .ok ⟨true, t.s, false, [], 0⟩ r.tail
    else if t.k == 3 then .ok ⟨false, [], false, [], t.n⟩ r.tail
    else if t.k == 1 && (t.q || !(t.s == notL)) then .ok ⟨false, [], true, t.s, 0⟩ r.tail
    else .bad a 2 := by
  unfold termP
  rw [hp]
def termV (x : TermL) : Value := .agg #[.bool x.v, .string (bs x.x), .bool x.s, .string (bs x.t), .int .i64 x.n]
theorem rterm_is {N : Nat} {L : List TP} {k : Nat} {t : Tok} {a : Nat} (hp : pk N (L.drop k) 0 = (t, a)) : match termP N (L.drop k) with
    | .bad a' e => a' = a ∧ e = 2 ∧ rtermV k t a = .tuple #[.agg #[.bool false, .string ⟨#[]⟩, .bool false, .string ⟨#[]⟩, .int .i64 0], .agg #[.int .i64 0, .int .i64 2, .int .i64 (a : Int)]]
    | .ok x r => r = L.drop (k + 1) ∧ k < L.length ∧ rtermV k t a = .tuple #[termV x, .agg #[.int .i64 ((k : Int) + 1), .int .i64 0, .int .i64 0]] := by
  have hk : t.k ≠ 0 → k < L.length := by
    intro h
    rcases Nat.lt_or_ge k L.length with h' | h'
    · exact h'
    · rw [List.drop_eq_nil_of_le h'] at hp
      have : t.k = 0 := by cases hp; rfl
      exact absurd this h
  rw [termP_eq hp]
  unfold rtermV
  cases e2 : (t.k == 2) with
  | true =>
    simp only [if_true]
    exact ⟨drop_tail, hk (by simp at e2; omega), rfl⟩
  | false =>
    cases e3 : (t.k == 3) with
    | true =>
      simp only [if_true, if_false, Bool.false_eq_true]
      exact ⟨drop_tail, hk (by simp at e3; omega), rfl⟩
    | false =>
      cases e1 : (t.k == 1 && (t.q || !(t.s == notL))) with
      | true =>
        simp only [if_true, if_false, Bool.false_eq_true]
        exact ⟨drop_tail, hk (by simp at e1; omega), rfl⟩
      | false =>
        simp only [if_false, Bool.false_eq_true]
        exact ⟨trivial, trivial, trivial⟩
theorem below_cellE {w w' : World} (h : Below w.heap.size w w') (T i : Nat) (hT : T < w.heap.size) : w'.cell? ⟨T, i, none⟩ = w.cell? ⟨T, i, none⟩ := h.cell (p := ⟨T, i, none⟩) hT
theorem isM_lt {N : Nat} {L : List TP} {j : Nat} {m : List UInt8} (h : isM N (L.drop j) 0 m = true) : j < L.length := by
  rcases Nat.lt_or_ge j L.length with h' | h'
  · exact h'
  · unfold isM at h
    rw [List.drop_eq_nil_of_le h', pk_nil] at h
    simp [eofT] at h
theorem o_setSt {W : World} {q e z n T : Nat} {v : Value} {xs : List Value} (h : W.ownsRow q e z v n xs) (hT : T < q) (u0 u1 u2 : Value) : (IsStSet T u0 u1 u2 W).ownsRow q e z v n xs :=
  o_keep h (grown_set (grown_set (grown_set (World.grownBy.refl W (some T)) 0 u0) 1 u1) 2 u2) hT
theorem o_setAt {W : World} {q e z n T : Nat} {v : Value} {xs : List Value} (h : W.ownsRow q e z v n xs) (hT : T < q) (u0 u1 : Value) : (IsAtSet T u0 u1 W).ownsRow q e z v n xs :=
  o_keep h (grown_set (grown_set (World.grownBy.refl W (some T)) 0 u0) 1 u1) hT
theorem o_drew {W : World} {q e z n : Nat} {v : Value} {xs : List Value} (h : W.ownsRow q e z v n xs) : W.drew.ownsRow q e z v n xs := o_kb h (Below.refl _ _).drew
theorem IsSt.drew {T : Nat} {v0 v1 v2 : Value} {w : World} (h : IsSt T v0 v1 v2 w) : IsSt T v0 v1 v2 w.drew := h
theorem IsAt.drew {T : Nat} {v0 v1 : Value} {w : World} (h : IsAt T v0 v1 w) : IsAt T v0 v1 w.drew := h
set_option maxRecDepth 100000 in
set_option maxHeartbeats 16000000 in
theorem ratom_args (A : Option Addr) (n c : Nat) (L : List TP) (N i : Nat) (t : Tok) (a : Nat) (t2 : Tok) (a2 : Nat) (w : World) (h : TkAt w A n L) (hp : pk N (L.drop i) 0 = (t, a)) (hs : t.s.length ≤ 1048576) (hi : i ≤ 1000000) (hiL : i < L.length) (hv : (t.k == 1 && !t.q && plainL t.s) = true) (hp2 : pk N (L.drop (i + 1)) 0 = (t2, a2)) (hv2 : (t2.k == 4 && t2.s == [40]) = true) (hn6 : n ≤ 1000000) :
    Calls Tryz.prog 38 #[.agg #[.slice A n c, .int .i64 (N : Int)], .int .i64 (i : Int)] w fun e w' => Below w.heap.size w w' ∧ RAtomIs N L i w.heap.size e w' := by
  have hb0 := (((Below.refl w.heap.size w).alloc (Nat.le_refl _) (.cells #[.slice A n c, .int .i64 (N : Int)] 80)).alloc (by simp) (.cells #[.string ⟨#[]⟩, .slice none 0 0] 25)).alloc (by simp; omega) (.cells #[.int .i64 0, .int .i64 0, .int .i64 0] 76)
  have HB0 := Lib.hid hb0
  have HT0 := Lib.hid (h.below hb0)
  have HS0 := Lib.hid (show IsSt (w.heap.size + 1 + 1) (.int .i64 0) (.int .i64 0) (.int .i64 0) (((w.alloc (.cells #[.slice A n c, .int .i64 (N : Int)] 80)).alloc (.cells #[.string ⟨#[]⟩, .slice none 0 0] 25)).alloc (.cells #[.int .i64 0, .int .i64 0, .int .i64 0] 76)) from by have h := IsSt.new (v0 := .int .i64 0) (v1 := .int .i64 0) (v2 := .int .i64 0) ((w.alloc (.cells #[.slice A n c, .int .i64 (N : Int)] 80)).alloc (.cells #[.string ⟨#[]⟩, .slice none 0 0] 25)); rwa [World.size_alloc, World.size_alloc] at h)
  have HM0 := Lib.hid (show IsAt (w.heap.size + 1) (.string ⟨#[]⟩) (.slice none 0 0) (((w.alloc (.cells #[.slice A n c, .int .i64 (N : Int)] 80)).alloc (.cells #[.string ⟨#[]⟩, .slice none 0 0] 25)).alloc (.cells #[.int .i64 0, .int .i64 0, .int .i64 0] 76)) from by have h := IsAt.new (v0 := .string ⟨#[]⟩) (v1 := .slice none 0 0) (w.alloc (.cells #[.slice A n c, .int .i64 (N : Int)] 80)); rw [World.size_alloc] at h; exact h.alloc _)
  have HX0 := Lib.hid (show (((w.alloc (.cells #[.slice A n c, .int .i64 (N : Int)] 80)).alloc (.cells #[.string ⟨#[]⟩, .slice none 0 0] 25)).alloc (.cells #[.int .i64 0, .int .i64 0, .int .i64 0] 76)).cell? ⟨w.heap.size, 0, none⟩ = some (.slice A n c) ∧ (((w.alloc (.cells #[.slice A n c, .int .i64 (N : Int)] 80)).alloc (.cells #[.string ⟨#[]⟩, .slice none 0 0] 25)).alloc (.cells #[.int .i64 0, .int .i64 0, .int .i64 0] 76)).cell? ⟨w.heap.size, 1, none⟩ = some (.int .i64 (N : Int)) from by
    have hbx := ((Below.refl (w.alloc (.cells #[.slice A n c, .int .i64 (N : Int)] 80)).heap.size (w.alloc (.cells #[.slice A n c, .int .i64 (N : Int)] 80))).alloc (Nat.le_refl _) (.cells #[.string ⟨#[]⟩, .slice none 0 0] 25)).alloc (by simp) (.cells #[.int .i64 0, .int .i64 0, .int .i64 0] 76)
    exact ⟨cell_below hbx (cell_of_row (w.alloc (.cells #[.slice A n c, .int .i64 (N : Int)] 80)) w.heap.size 0 _ _ _ (heap_alloc_new w _)), cell_below hbx (cell_of_row (w.alloc (.cells #[.slice A n c, .int .i64 (N : Int)] 80)) w.heap.size 1 _ _ _ (heap_alloc_new w _))⟩)
  have HNM := Lib.hid (fun (W : World) (h : TkAt W A n L) => (show Calls Tryz.prog 68 #[.agg #[.slice A n c, .int .i64 (N : Int)], .int .i64 (i : Int)] W (fun e w' => Below W.heap.size W w' ∧ e = .returned (.tuple #[.string (bs t.s), .agg #[.int .i64 ((i : Int) + 1), .int .i64 0, .int .i64 0]])) from by
    have h2 := rname_calls A n c L N i t a W h hp hs hi
    unfold rnameV at h2
    rw [hv, if_pos rfl] at h2
    exact h2))
  have HAT := Lib.hid (fun (W : World) (h : TkAt W A n L) => (show Calls Tryz.prog 70 #[.slice A n c, .int .i64 ((i : Int) + 1), .int .i64 (N : Int)] W (fun e w' => e = .returned (.agg #[.int .i64 (t2.k : Int), .string (bs t2.s), .int .i64 t2.n, .bool t2.q, .int .i64 (a2 : Int)]) ∧ Below W.heap.size W w') from rat_calls A n c L N (i + 1) t2 a2 W h hp2))
  have HMK := Lib.hid (fun (W : World) => (show Calls Tryz.prog 69 #[.agg #[.int .i64 (t2.k : Int), .string (bs t2.s), .int .i64 t2.n, .bool t2.q, .int .i64 (a2 : Int)], .string ⟨#[40]⟩] W (fun e w' => e = .returned (.bool true) ∧ Below W.heap.size W w') from rmark_calls t2.k t2.s t2.n t2.q a2 [40] true W hv2))
  have hm2 : isM N (L.drop (i + 1)) 0 [40] = true := by unfold isM; rw [hp2]; exact hv2
  have hi2 := isM_lt hm2
  have HR := Lib.hid (show atomP N (L.drop i) = (match someP (termP N) N 6 (L.drop (i + 2)) with
      | .bad a e => .bad a e
      | .ok l r2 => markP N [41] ⟨t.s, l⟩ r2) from by
    unfold atomP
    rw [nameP_eq hp, hv, if_pos rfl, drop_tail]
    dsimp only
    rw [hm2, if_pos rfl, drop_tail]
    rfl)
  have HTW := Lib.hid h
  have hnL := h.hn
  have HNL := Lib.hid hnL
  have hin : i + 1 < n := by omega
  clear h hp hb0 hv hp2 hv2 hm2 hnL hi2 hiL
  go_enter Tryz.func38, Tryz.ntmps38
  go_wp2_with (first
    | (go_at_call 68; ((with_reducible refine (HNM.out _ HT0.out).mono ?_); rintro e w1 ⟨hb1, rfl⟩; have HZ := Lib.hid (show w.heap.size + 1 + 1 + 1 ≤ w1.heap.size from by have hz := hb1.size; simp only [World.size_alloc] at hz; exact hz); have HT1 := Lib.hid ((HT0.out.below hb1).below ((Below.refl w1.heap.size w1).alloc (Nat.le_refl _) (.cells #[.int .i64 ((i : Int) + 1), .int .i64 0, .int .i64 0] 76))); have HX1 := Lib.hid (And.intro (cell_below ((Below.refl w1.heap.size w1).alloc (Nat.le_refl _) (.cells #[.int .i64 ((i : Int) + 1), .int .i64 0, .int .i64 0] 76)) (cell_below hb1 HX0.out.1)) (cell_below ((Below.refl w1.heap.size w1).alloc (Nat.le_refl _) (.cells #[.int .i64 ((i : Int) + 1), .int .i64 0, .int .i64 0] 76)) (cell_below hb1 HX0.out.2))); have HM1 := Lib.hid ((HM0.out.below hb1).alloc (.cells #[.int .i64 ((i : Int) + 1), .int .i64 0, .int .i64 0] 76)); have HS1 := Lib.hid ((HS0.out.below hb1).alloc (.cells #[.int .i64 ((i : Int) + 1), .int .i64 0, .int .i64 0] 76)); have HK1 := Lib.hid (IsSt.new (v0 := .int .i64 ((i : Int) + 1)) (v1 := .int .i64 0) (v2 := .int .i64 0) w1); have HB1 := Lib.hid ((HB0.out.trans (hb1.mono HB0.out.size)).alloc (Nat.le_trans HB0.out.size hb1.size) (.cells #[.int .i64 ((i : Int) + 1), .int .i64 0, .int .i64 0] 76)); have s0 := HS1.out.c0; have s1 := HS1.out.c1; have s2 := HS1.out.c2; have f0 := HS1.out.fr 0; have f1 := HS1.out.fr 1; have f2 := HS1.out.fr 2; have m0 := HM1.out.c0; have m1 := HM1.out.c1; have g0 := HM1.out.fr 0; have g1 := HM1.out.fr 1; have t0 := HK1.out.c0; have t1 := HK1.out.c1; have t2 := HK1.out.c2; have x0 := HX1.out.1; have x1 := HX1.out.2; clear hb1))
    | (go_at_call 70; ((with_reducible refine (HAT.out _ HT1.out).mono ?_); rintro e w2 ⟨rfl, hb2⟩; have HT2 := Lib.hid (HT1.out.below hb2); have HX2 := Lib.hid (And.intro (cell_below hb2 HX1.out.1) (cell_below hb2 HX1.out.2)); have HM2 := Lib.hid (HM1.out.below hb2); have HS2 := Lib.hid (HS1.out.below hb2); have HK2 := Lib.hid (HK1.out.below hb2); have HB2 := Lib.hid (HB1.out.trans (hb2.mono HB1.out.size)); have s0 := HS2.out.c0; have s1 := HS2.out.c1; have s2 := HS2.out.c2; have f0 := HS2.out.fr 0; have f1 := HS2.out.fr 1; have f2 := HS2.out.fr 2; have m0 := HM2.out.c0; have m1 := HM2.out.c1; have g0 := HM2.out.fr 0; have g1 := HM2.out.fr 1; have t0 := HK2.out.c0; have t1 := HK2.out.c1; have t2 := HK2.out.c2; have x0 := HX2.out.1; have x1 := HX2.out.2; clear hb2))
    | (go_at_call 69; ((with_reducible refine (HMK.out _).mono ?_); rintro e w3 ⟨rfl, hb3⟩; have HT3 := Lib.hid (HT2.out.below hb3); have HX3 := Lib.hid (And.intro (cell_below hb3 HX2.out.1) (cell_below hb3 HX2.out.2)); have HMZ := Lib.hid (HM2.out.below hb3); have HSZ := Lib.hid (HS2.out.below hb3); have HKZ := Lib.hid (HK2.out.below hb3); have HBZ := Lib.hid (HB2.out.trans (hb3.mono HB2.out.size)); have s0 := HSZ.out.c0; have s1 := HSZ.out.c1; have s2 := HSZ.out.c2; have f0 := HSZ.out.fr 0; have f1 := HSZ.out.fr 1; have f2 := HSZ.out.fr 2; have m0 := HMZ.out.c0; have m1 := HMZ.out.c1; have g0 := HMZ.out.fr 0; have g1 := HMZ.out.fr 1; have t0 := HKZ.out.c0; have t1 := HKZ.out.c1; have t2 := HKZ.out.c2; have x0 := HX3.out.1; have x1 := HX3.out.2; have t0' := fun o => cell_below ((Below.refl w3.heap.size w3).alloc (Nat.le_refl _) o) HKZ.out.c0; clear hb3)))
  obtain ⟨w4, hw4⟩ : ∃ w4, w3.alloc (.cells #[.string (bs t.s), .slice none 0 0] 25) = w4 := ⟨_, rfl⟩
  have hb4 := (Below.refl w3.heap.size w3).alloc (Nat.le_refl _) (.cells #[.string (bs t.s), .slice none 0 0] 25)
  have h8 := IsAt.new (v0 := .string (bs t.s)) (v1 := .slice none 0 0) w3
  rw [hw4] at hb4 h8 ⊢
  have HB4 := Lib.hid hb4
  have H8 := Lib.hid h8
  have hsz3 : w.heap.size + 1 + 1 < w3.heap.size := HSZ.out.lt
  have HSZ3 := Lib.hid hsz3
  clear hb4 h8 hsz3 t0' s0 s1 s2 f0 f1 f2 m0 m1 g0 g1 t0 t1 t2 x0 x1
  go_loopw [9] (fun ix wr => ∃ (k : Nat) (xs : List TermL) (v : Value), k ≤ n ∧ xs.length ≤ 6 ∧ ix = .int .i64 (k : Int) ∧ IsAt w3.heap.size (.string (bs t.s)) v wr ∧ wr.ownsRow (w3.heap.size + 1) 45 5 v xs.length (termCells xs) ∧ Below w3.heap.size w3 wr ∧ someP (termP N) N 6 (L.drop (i + 2)) = sapp xs (someP (termP N) N (6 - xs.length) (L.drop k))) (fun ix _ => n + 1 - (intOf ix).toNat)
  case atStart => exact ⟨i + 2, [], .slice none 0 0, by omega, by simp, by simp [Int.add_assoc], H8.out, World.ownsRow_nil _ _ _ _, HB4.out, (sapp_nil _).symm⟩
  case round =>
    obtain ⟨k, xs, v, hk, h6, rfl, h8, hown, hb, hq⟩ := hrel
    obtain ⟨A8, c8, rfl⟩ := o_slice hown
    obtain ⟨m, hm⟩ : ∃ m, xs.length = m := ⟨_, rfl⟩
    rw [hm] at hown h8 h6 hq
    have HBR := Lib.hid (HBZ.out.trans (hb.mono HBZ.out.size))
    have HTR := Lib.hid (HT3.out.below hb)
    have HMR := Lib.hid (HMZ.out.below hb)
    have HSR := Lib.hid (HSZ.out.below hb)
    have HXR := Lib.hid (And.intro (cell_below hb HX3.out.1) (cell_below hb HX3.out.2))
    have HH := Lib.hid h8
    have HOW := Lib.hid hown
    have HQ := Lib.hid hq
    have HM := Lib.hid hm
    have HBB := Lib.hid hb
    have hkn : k ≤ 1000000 := by omega
    obtain ⟨⟨t3, a3⟩, hp3⟩ : ∃ p, pk N (L.drop k) 0 = p := ⟨_, rfl⟩
    have h8lt := HSZ3.out
    have c0 := h8.c0
    have c1 := h8.c1
    have d0 := h8.fr 0
    have d1 := h8.fr 1
    have x0 := HXR.out.1
    have x1 := HXR.out.2
    by_cases hm6 : m = 6
    · subst hm6
      have HEND := Lib.hid (show atomP N (L.drop i) = .bad a3 4 from by
        rw [HR.out, hq]
        show (match sapp xs (Par.bad (pk N (L.drop k) 0).2 4) with
            | .bad a e => Par.bad a e
            | .ok l r2 => markP N [41] (⟨t.s, l⟩ : AtomL) r2) = _
        rw [hp3]
        rfl)
      have HA3 := Lib.hid (fun (W : World) (h : TkAt W A n L) => rat_calls A n c L N k t3 a3 W h hp3)
      have HFL := Lib.hid (fun (W : World) => rfailed_calls t3.k (bs t3.s) t3.n t3.q a3 4 W)
      have hn5 : w3.heap.size ≠ w.heap.size + 1 := by omega
      have hn6 : w3.heap.size ≠ w.heap.size + 1 + 1 := by omega
      have hn7 : w.heap.size + 1 ≠ w3.heap.size := by omega
      have hn8 : w.heap.size + 1 + 1 ≠ w3.heap.size := by omega
      have s0 := HSR.out.c0
      have s1 := HSR.out.c1
      have s2 := HSR.out.c2
      have f0 := HSR.out.fr 0
      have f1 := HSR.out.fr 1
      have f2 := HSR.out.fr 2
      have m0 := HMR.out.c0
      have m1 := HMR.out.c1
      have g0 := HMR.out.fr 0
      have g1 := HMR.out.fr 1
      clear hb h8 hown hq hm hp3
      go_wp2_with fail
      go_region_with (first
        | (go_at_call 70; ((with_reducible refine (HA3.out _ (HTW.out.below HBR.out.drew)).mono ?_); rintro e wq ⟨rfl, hbf⟩; have HMq := Lib.hid (HMR.out.drew.below hbf); have HSq := Lib.hid (HSR.out.drew.below hbf); have H8q := Lib.hid (HH.out.drew.below hbf); have hbx := HBR.out.drew; have HBq := Lib.hid (hbx.trans (hbf.mono hbx.size)); have c0 := H8q.out.c0; have c1 := H8q.out.c1; have s0 := HSq.out.c0; have s1 := HSq.out.c1; have s2 := HSq.out.c2; have f0 := HSq.out.fr 0; have f1 := HSq.out.fr 1; have f2 := HSq.out.fr 2; have m0 := HMq.out.c0; have m1 := HMq.out.c1; have g0 := HMq.out.fr 0; have g1 := HMq.out.fr 1; clear hbf hbx))
        | (go_at_call 70; ((with_reducible refine (HA3.out _ (HTW.out.below (below_IsAt HBR.out (T := w.heap.size + 1) (by omega) (.string (bs t.s)) (.slice A8 6 c8)).drew)).mono ?_); rintro e wq ⟨rfl, hbf⟩; have HMqB := Lib.hid ((HMR.out.set (.string (bs t.s)) (.slice A8 6 c8)).drew.below hbf); have HSq := Lib.hid ((HSR.out.farIsAt (T2 := w.heap.size + 1) (by omega) (.string (bs t.s)) (.slice A8 6 c8)).drew.below hbf); have H8q := Lib.hid ((HH.out.farIsAt (T2 := w.heap.size + 1) (by omega) (.string (bs t.s)) (.slice A8 6 c8)).drew.below hbf); have hbx := (below_IsAt HBR.out (T := w.heap.size + 1) (by omega) (.string (bs t.s)) (.slice A8 6 c8)).drew; have HBq := Lib.hid (hbx.trans (hbf.mono hbx.size)); have c0 := H8q.out.c0; have c1 := H8q.out.c1; have s0 := HSq.out.c0; have s1 := HSq.out.c1; have s2 := HSq.out.c2; have f0 := HSq.out.fr 0; have f1 := HSq.out.fr 1; have f2 := HSq.out.fr 2; have m0 := HMqB.out.c0; have m1 := HMqB.out.c1; have g0 := HMqB.out.fr 0; have g1 := HMqB.out.fr 1; clear hbf hbx))
        | (go_at_call 71; ((with_reducible refine (HFL.out _).mono ?_); rintro e wf ⟨rfl, hbf⟩; have HMF := Lib.hid (HMq.out.below hbf); have HSF := Lib.hid (HSq.out.below hbf); have H8F := Lib.hid (H8q.out.below hbf); have hbx := HBq.out; have HBF := Lib.hid (hbx.trans (hbf.mono hbx.size)); have c0 := H8F.out.c0; have c1 := H8F.out.c1; have s0 := HSF.out.c0; have s1 := HSF.out.c1; have s2 := HSF.out.c2; have f0 := HSF.out.fr 0; have f1 := HSF.out.fr 1; have f2 := HSF.out.fr 2; have m0 := HMF.out.c0; have m1 := HMF.out.c1; have g0 := HMF.out.fr 0; have g1 := HMF.out.fr 1; clear hbf hbx))
        | (go_at_call 71; ((with_reducible refine (HFL.out _).mono ?_); rintro e wf ⟨rfl, hbf⟩; have HMB := Lib.hid ((HMq.out.set (.string (bs t.s)) (.slice A8 6 c8)).below hbf); have HSF := Lib.hid ((HSq.out.farIsAt (T2 := w.heap.size + 1) (by omega) (.string (bs t.s)) (.slice A8 6 c8)).below hbf); have H8F := Lib.hid ((H8q.out.farIsAt (T2 := w.heap.size + 1) (by omega) (.string (bs t.s)) (.slice A8 6 c8)).below hbf); have hbx := (below_IsAt HBq.out (T := w.heap.size + 1) (by omega) (.string (bs t.s)) (.slice A8 6 c8)); have HBF := Lib.hid (hbx.trans (hbf.mono hbx.size)); have c0 := H8F.out.c0; have c1 := H8F.out.c1; have s0 := HSF.out.c0; have s1 := HSF.out.c1; have s2 := HSF.out.c2; have f0 := HSF.out.fr 0; have f1 := HSF.out.fr 1; have f2 := HSF.out.fr 2; have m0 := HMB.out.c0; have m1 := HMB.out.c1; have g0 := HMB.out.fr 0; have g1 := HMB.out.fr 1; clear hbf hbx))
        | (go_at_call 71; ((with_reducible refine (HFL.out _).mono ?_); rintro e wf ⟨rfl, hbf⟩; have HMB := Lib.hid (HMqB.out.below hbf); have HSF := Lib.hid (HSq.out.below hbf); have H8F := Lib.hid (H8q.out.below hbf); have hbx := HBq.out; have HBF := Lib.hid (hbx.trans (hbf.mono hbx.size)); have c0 := H8F.out.c0; have c1 := H8F.out.c1; have s0 := HSF.out.c0; have s1 := HSF.out.c1; have s2 := HSF.out.c2; have f0 := HSF.out.fr 0; have f1 := HSF.out.fr 1; have f2 := HSF.out.fr 2; have m0 := HMB.out.c0; have m1 := HMB.out.c1; have g0 := HMB.out.fr 0; have g1 := HMB.out.fr 1; clear hbf hbx)))
      all_goals (go_wp2_with fail)
      all_goals (first
        | (have hm1 := (HMF.out.set (.string (bs t.s)) (.slice A8 6 c8)).farIsSt (T2 := w.heap.size + 1 + 1) (by omega) (.int .i64 0) (.int .i64 4) (.int .i64 (a3 : Int)); have hs1 := (HSF.out.farIsAt (T2 := w.heap.size + 1) (by omega) (.string (bs t.s)) (.slice A8 6 c8)).set (.int .i64 0) (.int .i64 4) (.int .i64 (a3 : Int)); have hbz := below_IsSt (below_IsAt HBF.out (T := w.heap.size + 1) (by omega) (.string (bs t.s)) (.slice A8 6 c8)) (T := w.heap.size + 1 + 1) (by omega) (.int .i64 0) (.int .i64 4) (.int .i64 (a3 : Int)); have r0 := hs1.c0; have r1 := hs1.c1; have r2 := hs1.c2; have q0 := hm1.c0; have q1 := hm1.c1; refine bodyPost_ret (v := .tuple #[.agg #[.string (bs t.s), .slice A8 6 c8], .agg #[.int .i64 0, .int .i64 4, .int .i64 (a3 : Int)]]) (by simp [results, Tryz.results38, go_sem, r0, r1, r2, q0, q1]) rfl ⟨(by first | exact hbz | exact hbz.drew), ?_⟩; unfold RAtomIs; rw [HEND.out]; exact ⟨_, _, _, _, rfl⟩)
        | (have hm1 := (HMF.out.farIsSt (T2 := w.heap.size + 1 + 1) (by omega) (.int .i64 0) (.int .i64 4) (.int .i64 (a3 : Int))).set (.string (bs t.s)) (.slice A8 6 c8); have hs1 := (HSF.out.set (.int .i64 0) (.int .i64 4) (.int .i64 (a3 : Int))).farIsAt (T2 := w.heap.size + 1) (by omega) (.string (bs t.s)) (.slice A8 6 c8); have hbz := below_IsAt (below_IsSt HBF.out (T := w.heap.size + 1 + 1) (by omega) (.int .i64 0) (.int .i64 4) (.int .i64 (a3 : Int))) (T := w.heap.size + 1) (by omega) (.string (bs t.s)) (.slice A8 6 c8); have r0 := hs1.c0; have r1 := hs1.c1; have r2 := hs1.c2; have q0 := hm1.c0; have q1 := hm1.c1; refine bodyPost_ret (v := .tuple #[.agg #[.string (bs t.s), .slice A8 6 c8], .agg #[.int .i64 0, .int .i64 4, .int .i64 (a3 : Int)]]) (by simp [results, Tryz.results38, go_sem, r0, r1, r2, q0, q1]) rfl ⟨(by first | exact hbz | exact hbz.drew), ?_⟩; unfold RAtomIs; rw [HEND.out]; exact ⟨_, _, _, _, rfl⟩)
        | (have hm1 := HMB.out.farIsSt (T2 := w.heap.size + 1 + 1) (by omega) (.int .i64 0) (.int .i64 4) (.int .i64 (a3 : Int)); have hs1 := HSF.out.set (.int .i64 0) (.int .i64 4) (.int .i64 (a3 : Int)); have hbz := below_IsSt HBF.out (T := w.heap.size + 1 + 1) (by omega) (.int .i64 0) (.int .i64 4) (.int .i64 (a3 : Int)); have r0 := hs1.c0; have r1 := hs1.c1; have r2 := hs1.c2; have q0 := hm1.c0; have q1 := hm1.c1; refine bodyPost_ret (v := .tuple #[.agg #[.string (bs t.s), .slice A8 6 c8], .agg #[.int .i64 0, .int .i64 4, .int .i64 (a3 : Int)]]) (by simp [results, Tryz.results38, go_sem, r0, r1, r2, q0, q1]) rfl ⟨(by first | exact hbz | exact hbz.drew), ?_⟩; unfold RAtomIs; rw [HEND.out]; exact ⟨_, _, _, _, rfl⟩)
        )
    · have hms : ((m : Int) == 6) = false := by simp; omega
      obtain ⟨q, hq6⟩ : ∃ q, 6 - m = q + 1 := ⟨5 - m, by omega⟩
      have hst : someP (termP N) N (6 - m) (L.drop k) = (match termP N (L.drop k) with
          | .bad a e => .bad a e
          | .ok x r1 => if isM N r1 0 [44] then (match someP (termP N) N q r1.tail with
              | .bad a e => .bad a e
              | .ok xs r2 => .ok (x :: xs) r2)
            else .ok [x] r1) := by
        rw [hq6, someP]
        cases termP N (L.drop k) with
        | bad a e => rfl
        | ok x r1 =>
          by_cases hh : isM N r1 0 [44] = true
          · dsimp only
            rw [if_pos hh, if_pos hh]
            cases someP (termP N) N q r1.tail <;> rfl
          · dsimp only
            rw [if_neg hh, if_neg hh]
      have hterm := rterm_is hp3
      cases htp : termP N (L.drop k) with
      | bad a' e' =>
        rw [htp] at hterm hst
        obtain ⟨ha', he', hrv⟩ := hterm
        subst ha' he'
        have HTM := Lib.hid (fun (W : World) (h : TkAt W A n L) => (show Calls Tryz.prog 72 #[.agg #[.slice A n c, .int .i64 (N : Int)], .int .i64 (k : Int)] W (fun e w' => Below W.heap.size W w' ∧ e = .returned (.tuple #[.agg #[.bool false, .string ⟨#[]⟩, .bool false, .string ⟨#[]⟩, .int .i64 0], .agg #[.int .i64 0, .int .i64 2, .int .i64 (a' : Int)]])) from by
          have h2 := rterm_calls A n c L N k t3 a' W h hp3 hkn
          rw [hrv] at h2
          exact h2))
        have HEND := Lib.hid (show atomP N (L.drop i) = .bad a' 2 from by rw [HR.out, hq, hst]; rfl)
        clear hb h8 hown hq hm hp3 hst hrv htp
        go_wp2_with (go_at_call 72; ((with_reducible refine (HTM.out _ HTR.out).mono ?_); rintro e w5 ⟨hb5, rfl⟩; have hsz := hb5.size; have h8l := HH.out.lt; have hn1 : w5.heap.size + 1 ≠ w.heap.size + 1 := (by omega); have hn2 : w5.heap.size + 1 ≠ w.heap.size + 1 + 1 := (by omega); have hn3 : w.heap.size + 1 ≠ w5.heap.size + 1 := (by omega); have hn4 : w.heap.size + 1 + 1 ≠ w5.heap.size + 1 := (by omega); have hn5 : w3.heap.size ≠ w.heap.size + 1 := (by omega); have hn6 : w3.heap.size ≠ w.heap.size + 1 + 1 := (by omega); have hn7 : w.heap.size + 1 ≠ w3.heap.size := (by omega); have hn8 : w.heap.size + 1 + 1 ≠ w3.heap.size := (by omega); clear hsz h8l; have H8A := Lib.hid ((HH.out.below hb5).alloc (.cells #[.bool false, .string ⟨#[]⟩, .bool false, .string ⟨#[]⟩, .int .i64 0] 45) |>.alloc (.cells #[.int .i64 0, .int .i64 2, .int .i64 (a' : Int)] 76)); have HMZ2 := Lib.hid ((HMR.out.below hb5).alloc (.cells #[.bool false, .string ⟨#[]⟩, .bool false, .string ⟨#[]⟩, .int .i64 0] 45) |>.alloc (.cells #[.int .i64 0, .int .i64 2, .int .i64 (a' : Int)] 76)); have HSZ2 := Lib.hid ((HSR.out.below hb5).alloc (.cells #[.bool false, .string ⟨#[]⟩, .bool false, .string ⟨#[]⟩, .int .i64 0] 45) |>.alloc (.cells #[.int .i64 0, .int .i64 2, .int .i64 (a' : Int)] 76)); have HKA := Lib.hid (show IsSt (w5.heap.size + 1) (.int .i64 0) (.int .i64 2) (.int .i64 (a' : Int)) ((w5.alloc (.cells #[.bool false, .string ⟨#[]⟩, .bool false, .string ⟨#[]⟩, .int .i64 0] 45)).alloc (.cells #[.int .i64 0, .int .i64 2, .int .i64 (a' : Int)] 76)) from (by have h := IsSt.new (v0 := .int .i64 0) (v1 := .int .i64 2) (v2 := .int .i64 (a' : Int)) (w5.alloc (.cells #[.bool false, .string ⟨#[]⟩, .bool false, .string ⟨#[]⟩, .int .i64 0] 45)); rwa [World.size_alloc] at h)); have hbz := HBR.out.trans (hb5.mono HBR.out.size); have HBZ2 := Lib.hid ((hbz.alloc hbz.size (.cells #[.bool false, .string ⟨#[]⟩, .bool false, .string ⟨#[]⟩, .int .i64 0] 45)).alloc (hbz.alloc hbz.size (.cells #[.bool false, .string ⟨#[]⟩, .bool false, .string ⟨#[]⟩, .int .i64 0] 45)).size (.cells #[.int .i64 0, .int .i64 2, .int .i64 (a' : Int)] 76)); have y0 := H8A.out.c0; have y1 := H8A.out.c1; have t0 := HKA.out.c0; have t1 := HKA.out.c1; have t2' := HKA.out.c2; have s0 := HSZ2.out.c0; have s1 := HSZ2.out.c1; have s2 := HSZ2.out.c2; have f0 := HSZ2.out.fr 0; have f1 := HSZ2.out.fr 1; have f2 := HSZ2.out.fr 2; have m0 := HMZ2.out.c0; have m1 := HMZ2.out.c1; have g0 := HMZ2.out.fr 0; have g1 := HMZ2.out.fr 1; clear hb5 hbz))
        go_region
        go_wp2_with fail
        have hm1 := (HMZ2.out.set (.string (bs t.s)) (.slice A8 m c8)).farIsSt (T2 := w.heap.size + 1 + 1) (by omega) (.int .i64 0) (.int .i64 2) (.int .i64 (a' : Int))
        have hs1 := (HSZ2.out.farIsAt (T2 := w.heap.size + 1) (by omega) (.string (bs t.s)) (.slice A8 m c8)).set (.int .i64 0) (.int .i64 2) (.int .i64 (a' : Int))
        have r0 := hs1.c0
        have r1 := hs1.c1
        have r2 := hs1.c2
        have q0 := hm1.c0
        have q1 := hm1.c1
        refine bodyPost_ret (v := .tuple #[.agg #[.string (bs t.s), .slice A8 m c8], .agg #[.int .i64 0, .int .i64 2, .int .i64 (a' : Int)]]) (by simp [results, Tryz.results38, go_sem, r0, r1, r2, q0, q1]) rfl ⟨(below_IsSt (below_IsAt HBZ2.out (by omega) _ _) (by omega) _ _ _).drew, ?_⟩
        unfold RAtomIs
        rw [HEND.out]
        exact ⟨_, _, _, _, rfl⟩
      | ok x r1 =>
        rw [htp] at hterm hst
        obtain ⟨hr1, hkL, hrv⟩ := hterm
        subst hr1
        have HTM := Lib.hid (fun (W : World) (h : TkAt W A n L) => (show Calls Tryz.prog 72 #[.agg #[.slice A n c, .int .i64 (N : Int)], .int .i64 (k : Int)] W (fun e w' => Below W.heap.size W w' ∧ e = .returned (.tuple #[.agg #[.bool x.v, .string (bs x.x), .bool x.s, .string (bs x.t), .int .i64 x.n], .agg #[.int .i64 ((k : Int) + 1), .int .i64 0, .int .i64 0]])) from by
          have h2 := rterm_calls A n c L N k t3 a3 W h hp3 hkn
          rw [hrv] at h2
          exact h2))
        have HKN := Lib.hid (show k < n from by rw [HNL.out]; exact hkL)
        have HST := Lib.hid hst
        obtain ⟨⟨t4, a4⟩, hp4⟩ : ∃ p, pk N (L.drop (k + 1)) 0 = p := ⟨_, rfl⟩
        have HP4 := Lib.hid hp4
        have HA4 := Lib.hid (fun (W : World) (h : TkAt W A n L) => (show Calls Tryz.prog 70 #[.slice A n c, .int .i64 ((k : Int) + 1), .int .i64 (N : Int)] W (fun e w' => e = .returned (.agg #[.int .i64 (t4.k : Int), .string (bs t4.s), .int .i64 t4.n, .bool t4.q, .int .i64 (a4 : Int)]) ∧ Below W.heap.size W w') from rat_calls A n c L N (k + 1) t4 a4 W h hp4))
        have HEQ := Lib.hid (show someP (termP N) N 6 (L.drop (i + 2)) = sapp xs (if isM N (L.drop (k + 1)) 0 [44] then (match someP (termP N) N q (L.drop (k + 1)).tail with
            | .bad a e => .bad a e
            | .ok ys r2 => .ok (x :: ys) r2)
          else .ok [x] (L.drop (k + 1))) from by rw [hq, hst])
        have hm6' : m < 6 := by omega
        clear hb h8 hown hq hm hp3 hst hrv htp hp4 hkL
        go_wp2_with (first
          | (go_at_call 72; ((with_reducible refine (HTM.out _ HTR.out).mono ?_); rintro e w5 ⟨hb5, rfl⟩; have H85 := Lib.hid ((HH.out.below hb5).alloc (.cells #[.bool x.v, .string (bs x.x), .bool x.s, .string (bs x.t), .int .i64 x.n] 45) |>.alloc (.cells #[.int .i64 ((k : Int) + 1), .int .i64 0, .int .i64 0] 76)); have HO5 := Lib.hid (o_kb (o_kb HOW.out hb5) (((Below.refl w5.heap.size w5).alloc (Nat.le_refl _) (.cells #[.bool x.v, .string (bs x.x), .bool x.s, .string (bs x.t), .int .i64 x.n] 45)).alloc (by simp) (.cells #[.int .i64 ((k : Int) + 1), .int .i64 0, .int .i64 0] 76))); have HK5 := Lib.hid (show IsSt (w5.heap.size + 1) (.int .i64 ((k : Int) + 1)) (.int .i64 0) (.int .i64 0) ((w5.alloc (.cells #[.bool x.v, .string (bs x.x), .bool x.s, .string (bs x.t), .int .i64 x.n] 45)).alloc (.cells #[.int .i64 ((k : Int) + 1), .int .i64 0, .int .i64 0] 76)) from (by have h := IsSt.new (v0 := .int .i64 ((k : Int) + 1)) (v1 := .int .i64 0) (v2 := .int .i64 0) (w5.alloc (.cells #[.bool x.v, .string (bs x.x), .bool x.s, .string (bs x.t), .int .i64 x.n] 45)); rwa [World.size_alloc] at h)); have HZ5 := Lib.hid (And.intro HH.out.lt hb5.size); have hbz := HBR.out.trans (hb5.mono HBR.out.size); have HB5 := Lib.hid ((hbz.alloc hbz.size (.cells #[.bool x.v, .string (bs x.x), .bool x.s, .string (bs x.t), .int .i64 x.n] 45)).alloc (hbz.alloc hbz.size (.cells #[.bool x.v, .string (bs x.x), .bool x.s, .string (bs x.t), .int .i64 x.n] 45)).size (.cells #[.int .i64 ((k : Int) + 1), .int .i64 0, .int .i64 0] 76)); have hbq := HBB.out.trans (hb5.mono HBB.out.size); have HBB5 := Lib.hid ((hbq.alloc hbq.size (.cells #[.bool x.v, .string (bs x.x), .bool x.s, .string (bs x.t), .int .i64 x.n] 45)).alloc (hbq.alloc hbq.size (.cells #[.bool x.v, .string (bs x.x), .bool x.s, .string (bs x.t), .int .i64 x.n] 45)).size (.cells #[.int .i64 ((k : Int) + 1), .int .i64 0, .int .i64 0] 76)); have y0 := H85.out.c0; have y1 := H85.out.c1; have y2 := H85.out.fr 0; have y3 := H85.out.fr 1; clear hb5 hbz hbq))
          | (at_builtin; refine RowKit.Hid.out ?_))
        refine Lib.hid ?_
        have hown1 : ∀ j, Value.ownBlock (.slice A8 m c8) = some j → w3.heap.size + 1 ≤ j ∧ j < w5.heap.size := fun j hj => ⟨o_from HOW.out j hj, Nat.lt_of_lt_of_le (HOW.out.lt j hj).2 HZ5.out.2⟩
        have HOWN := Lib.hid hown1
        clear hown1
        refine o_app (W := (w5.alloc (.cells #[.bool x.v, .string (bs x.x), .bool x.s, .string (bs x.t), .int .i64 x.n] 45)).alloc (.cells #[.int .i64 ((k : Int) + 1), .int .i64 0, .int .i64 0] 76)) rfl (.tmp 65) (.tmp 67) 23 45 rfl (.agg #[.bool false, .string ⟨#[]⟩, .bool false, .string ⟨#[]⟩, .int .i64 0]) 5 56 Tryz.underlying23 trm_info rfl (by decide) (by decide) #[.bool x.v, .string (bs x.x), .bool x.s, .string (bs x.t), .int .i64 x.n] rfl (by intro v hv; simp at hv; rcases hv with rfl | rfl | rfl | rfl | rfl <;> rfl) (.slice A8 m c8) m (termCells xs) (by rfl) HO5.out (by first | rfl | (show (Value.slice (some ⟨w5.heap.size + 1 + 1, 0, none⟩) 1 1) = _; simp)) (by omega) (by have := HZ5.out; simp; omega) ?_
        intro A9 c9 w7 ho7 hg7
        have HO7 := Lib.hid (show w7.ownsRow (w3.heap.size + 1) 45 5 (.slice A9 (m + 1) c9) (m + 1) (termCells (xs ++ [x])) from by rw [termCells_snoc]; exact ho7)
        have H87 := Lib.hid (H85.out.grown hg7 (fun e => by have := HOWN.out _ e.symm; omega))
        have HK7 := Lib.hid (HK5.out.grown hg7 (fun e => by have := HOWN.out _ e.symm; omega))
        have HB7 := Lib.hid (HB5.out.grown hg7 HB5.out.size (fun j hj => by have := HOWN.out j hj; omega))
        have HBB7 := Lib.hid (HBB5.out.grown hg7 HBB5.out.size (fun j hj => by have := HOWN.out j hj; omega))
        have hne1 : w.heap.size ≠ w3.heap.size := by omega
        have hne2 : w5.heap.size + 1 ≠ w3.heap.size := by have := HZ5.out.1; have := HZ5.out.2; omega
        have HB8 := Lib.hid (show Below w.heap.size w (w7.setCell ⟨w3.heap.size, 1, none⟩ (.slice A9 (m + 1) c9)) from HB7.out.setCell (p := ⟨w3.heap.size, 1, none⟩) (by show w.heap.size ≤ w3.heap.size; omega) _)
        have HBB8 := Lib.hid (show Below w3.heap.size w3 (w7.setCell ⟨w3.heap.size, 1, none⟩ (.slice A9 (m + 1) c9)) from HBB7.out.setCell (p := ⟨w3.heap.size, 1, none⟩) (Nat.le_refl _) _)
        have HT8 := Lib.hid (HTW.out.below HB8.out)
        have H88 := Lib.hid (show IsAt w3.heap.size (.string (bs t.s)) (.slice A9 (m + 1) c9) (w7.setCell ⟨w3.heap.size, 1, none⟩ (.slice A9 (m + 1) c9)) from H87.out.set1 _)
        have HK8 := Lib.hid (show IsSt (w5.heap.size + 1) (.int .i64 ((k : Int) + 1)) (.int .i64 0) (.int .i64 0) (w7.setCell ⟨w3.heap.size, 1, none⟩ (.slice A9 (m + 1) c9)) from HK7.out.far hne2 1 _)
        have HO8 := Lib.hid (show (w7.setCell ⟨w3.heap.size, 1, none⟩ (.slice A9 (m + 1) c9)).ownsRow (w3.heap.size + 1) 45 5 (.slice A9 (m + 1) c9) (m + 1) (termCells (xs ++ [x])) from o_keep HO7.out (grown_set (World.grownBy.refl w7 (some w3.heap.size)) 1 _) (by omega))
        have HX8 := Lib.hid (And.intro (cell_below HBB8.out HX3.out.1) (cell_below HBB8.out HX3.out.2))
        have HM8 := Lib.hid (HMZ.out.below HBB8.out)
        have HS8 := Lib.hid (HSZ.out.below HBB8.out)
        have e8 := H87.out.fr 1
        have e8' := H87.out.c1
        have z0 := cell_below HBB7.out HX3.out.1
        have z1 := cell_below HBB7.out HX3.out.2
        have z2 := HK7.out.c0
        have hne3 : w3.heap.size ≠ w.heap.size := by omega
        have hne4 : w3.heap.size ≠ w5.heap.size + 1 := fun e => hne2 e.symm
        clear ho7 hg7 c0 c1 d0 d1 x0 x1 y0 y1 y2 y3
        cases v41 : (t4.k == 4 && t4.s == [41]) with
        | true =>
          have HM41 := Lib.hid (fun (W : World) => (show Calls Tryz.prog 69 #[.agg #[.int .i64 (t4.k : Int), .string (bs t4.s), .int .i64 t4.n, .bool t4.q, .int .i64 (a4 : Int)], .string ⟨#[41]⟩] W (fun e w' => e = .returned (.bool true) ∧ Below W.heap.size W w') from rmark_calls t4.k t4.s t4.n t4.q a4 [41] true W v41))
          have h44 : (t4.k == 4 && t4.s == [44]) = false := by simp at v41; simp [v41.2]
          have hi44 : isM N (L.drop (k + 1)) 0 [44] = false := by unfold isM; rw [HP4.out]; exact h44
          have hi41 : isM N (L.drop (k + 1)) 0 [41] = true := by unfold isM; rw [HP4.out]; exact v41
          have HK2 := Lib.hid (show k + 2 ≤ L.length from isM_lt hi41)
          have HEND := Lib.hid (show atomP N (L.drop i) = .ok ⟨t.s, xs ++ [x]⟩ (L.drop (k + 2)) from by
            rw [HR.out, HEQ.out, hi44, if_neg (by decide)]
            show markP N [41] (⟨t.s, xs ++ [x]⟩ : AtomL) (L.drop (k + 1)) = _
            unfold markP
            rw [if_pos hi41, drop_tail])
          clear v41 h44 hi44 hi41
          have hz5 := HZ5.out
          have hn1 : w5.heap.size + 1 ≠ w.heap.size + 1 := by omega
          have hn2 : w5.heap.size + 1 ≠ w.heap.size + 1 + 1 := by omega
          have hn3 : w.heap.size + 1 ≠ w5.heap.size + 1 := by omega
          have hn4 : w.heap.size + 1 + 1 ≠ w5.heap.size + 1 := by omega
          have hn5 : w3.heap.size ≠ w.heap.size + 1 := by omega
          have hn6 : w3.heap.size ≠ w.heap.size + 1 + 1 := by omega
          have hn7 : w.heap.size + 1 ≠ w3.heap.size := by omega
          have hn8 : w.heap.size + 1 + 1 ≠ w3.heap.size := by omega
          clear hz5
          go_wp2_with (first
            | (go_at_call 70; ((with_reducible refine (HA4.out _ HT8.out).mono ?_); rintro e w9 ⟨rfl, hb9⟩; have H89 := Lib.hid ((H88.out.below hb9).alloc (.cells #[.int .i64 (t4.k : Int), .string (bs t4.s), .int .i64 t4.n, .bool t4.q, .int .i64 (a4 : Int)] 71)); have HO9 := Lib.hid (o_kb (o_kb HO8.out hb9) ((Below.refl w9.heap.size w9).alloc (Nat.le_refl _) (.cells #[.int .i64 (t4.k : Int), .string (bs t4.s), .int .i64 t4.n, .bool t4.q, .int .i64 (a4 : Int)] 71))); have HK9 := Lib.hid ((HK8.out.below hb9).alloc (.cells #[.int .i64 (t4.k : Int), .string (bs t4.s), .int .i64 t4.n, .bool t4.q, .int .i64 (a4 : Int)] 71)); have hbq := HB8.out.trans (hb9.mono HB8.out.size); have HB9 := Lib.hid (hbq.alloc hbq.size (.cells #[.int .i64 (t4.k : Int), .string (bs t4.s), .int .i64 t4.n, .bool t4.q, .int .i64 (a4 : Int)] 71)); have HM9 := Lib.hid ((HM8.out.below hb9).alloc (.cells #[.int .i64 (t4.k : Int), .string (bs t4.s), .int .i64 t4.n, .bool t4.q, .int .i64 (a4 : Int)] 71)); have HS9 := Lib.hid ((HS8.out.below hb9).alloc (.cells #[.int .i64 (t4.k : Int), .string (bs t4.s), .int .i64 t4.n, .bool t4.q, .int .i64 (a4 : Int)] 71)); have TT0 := (cell_of_row (w9.alloc (.cells #[.int .i64 (t4.k : Int), .string (bs t4.s), .int .i64 t4.n, .bool t4.q, .int .i64 (a4 : Int)] 71)) w9.heap.size 0 _ _ _ (heap_alloc_new w9 _)); clear hb9 hbq))
            | (go_at_call 69; ((with_reducible refine (HM41.out _).mono ?_); rintro e w10 ⟨rfl, hbm⟩; have H810 := Lib.hid (H89.out.below hbm); have HO10 := Lib.hid (o_kb HO9.out hbm); have HK10 := Lib.hid (HK9.out.below hbm); have HB10 := Lib.hid (HB9.out.trans (hbm.mono HB9.out.size)); have HM10 := Lib.hid (HM9.out.below hbm); have HS10 := Lib.hid (HS9.out.below hbm); have c0 := H810.out.c0; have c1 := H810.out.c1; have t0 := HK10.out.c0; have t1 := HK10.out.c1; have t2' := HK10.out.c2; have s0 := HS10.out.c0; have s1 := HS10.out.c1; have s2 := HS10.out.c2; have f0 := HS10.out.fr 0; have f1 := HS10.out.fr 1; have f2 := HS10.out.fr 2; have m0 := HM10.out.c0; have m1 := HM10.out.c1; have g0 := HM10.out.fr 0; have g1 := HM10.out.fr 1; clear hbm)))
          go_region
          go_wp2_with fail
          have hm1 := (HM10.out.set (.string (bs t.s)) (.slice A9 (m + 1) c9)).farIsSt (T2 := w.heap.size + 1 + 1) (by omega) (.int .i64 ((k : Int) + 1 + 1)) (.int .i64 0) (.int .i64 0)
          have hs1 := (HS10.out.farIsAt (T2 := w.heap.size + 1) (by omega) (.string (bs t.s)) (.slice A9 (m + 1) c9)).set (.int .i64 ((k : Int) + 1 + 1)) (.int .i64 0) (.int .i64 0)
          have r0 := hs1.c0
          have r1 := hs1.c1
          have r2 := hs1.c2
          have q0 := hm1.c0
          have q1 := hm1.c1
          refine bodyPost_ret (v := .tuple #[.agg #[.string (bs t.s), .slice A9 (m + 1) c9], .agg #[.int .i64 ((k : Int) + 1 + 1), .int .i64 0, .int .i64 0]]) (by simp [results, Tryz.results38, go_sem, r0, r1, r2, q0, q1]) rfl ⟨(below_IsSt (below_IsAt HB10.out (by omega) _ _) (by omega) _ _ _).drew, ?_⟩
          unfold RAtomIs
          rw [HEND.out]
          have ho := o_base (o_drew (o_setSt (o_setAt HO10.out (show w.heap.size + 1 < w3.heap.size + 1 by omega) (.string (bs t.s)) (.slice A9 (m + 1) c9)) (show w.heap.size + 1 + 1 < w3.heap.size + 1 by omega) (.int .i64 ((k : Int) + 1 + 1)) (.int .i64 0) (.int .i64 0))) (show w.heap.size ≤ w3.heap.size + 1 by omega)
          exact ⟨k + 2, A9, m + 1, c9, by simp [HM.out], rfl, HK2.out, by simp [Int.add_assoc], by unfold TermsAt; rw [List.length_append, HM.out]; exact ho⟩
        | false =>
          have HM41 := Lib.hid (fun (W : World) => (show Calls Tryz.prog 69 #[.agg #[.int .i64 (t4.k : Int), .string (bs t4.s), .int .i64 t4.n, .bool t4.q, .int .i64 (a4 : Int)], .string ⟨#[41]⟩] W (fun e w' => e = .returned (.bool false) ∧ Below W.heap.size W w') from rmark_calls t4.k t4.s t4.n t4.q a4 [41] false W v41))
          cases v44 : (t4.k == 4 && t4.s == [44]) with
          | false =>
            have hi44 : isM N (L.drop (k + 1)) 0 [44] = false := by unfold isM; rw [HP4.out]; exact v44
            have hi41 : isM N (L.drop (k + 1)) 0 [41] = false := by unfold isM; rw [HP4.out]; exact v41
            have HEND := Lib.hid (show atomP N (L.drop i) = .bad a4 2 from by
              rw [HR.out, HEQ.out, hi44, if_neg (by decide)]
              show markP N [41] (⟨t.s, xs ++ [x]⟩ : AtomL) (L.drop (k + 1)) = _
              unfold markP
              rw [hi41, if_neg (by decide), HP4.out])
            have HM44 := Lib.hid (fun (W : World) => (show Calls Tryz.prog 69 #[.agg #[.int .i64 (t4.k : Int), .string (bs t4.s), .int .i64 t4.n, .bool t4.q, .int .i64 (a4 : Int)], .string ⟨#[44]⟩] W (fun e w' => e = .returned (.bool false) ∧ Below W.heap.size W w') from rmark_calls t4.k t4.s t4.n t4.q a4 [44] false W v44))
            have HFL := Lib.hid (fun (W : World) => rfailed_calls t4.k (bs t4.s) t4.n t4.q a4 2 W)
            clear v41 v44 hi44 hi41
            have hz5 := HZ5.out
            have hn1 : w5.heap.size + 1 ≠ w.heap.size + 1 := by omega
            have hn2 : w5.heap.size + 1 ≠ w.heap.size + 1 + 1 := by omega
            have hn3 : w.heap.size + 1 ≠ w5.heap.size + 1 := by omega
            have hn4 : w.heap.size + 1 + 1 ≠ w5.heap.size + 1 := by omega
            have hn5 : w3.heap.size ≠ w.heap.size + 1 := by omega
            have hn6 : w3.heap.size ≠ w.heap.size + 1 + 1 := by omega
            have hn7 : w.heap.size + 1 ≠ w3.heap.size := by omega
            have hn8 : w.heap.size + 1 + 1 ≠ w3.heap.size := by omega
            clear hz5
            go_wp2_with (first
              | (go_at_call 70; ((with_reducible refine (HA4.out _ HT8.out).mono ?_); rintro e w9 ⟨rfl, hb9⟩; have H89 := Lib.hid ((H88.out.below hb9).alloc (.cells #[.int .i64 (t4.k : Int), .string (bs t4.s), .int .i64 t4.n, .bool t4.q, .int .i64 (a4 : Int)] 71)); have HO9 := Lib.hid (o_kb (o_kb HO8.out hb9) ((Below.refl w9.heap.size w9).alloc (Nat.le_refl _) (.cells #[.int .i64 (t4.k : Int), .string (bs t4.s), .int .i64 t4.n, .bool t4.q, .int .i64 (a4 : Int)] 71))); have HK9 := Lib.hid ((HK8.out.below hb9).alloc (.cells #[.int .i64 (t4.k : Int), .string (bs t4.s), .int .i64 t4.n, .bool t4.q, .int .i64 (a4 : Int)] 71)); have hbq := HB8.out.trans (hb9.mono HB8.out.size); have HB9 := Lib.hid (hbq.alloc hbq.size (.cells #[.int .i64 (t4.k : Int), .string (bs t4.s), .int .i64 t4.n, .bool t4.q, .int .i64 (a4 : Int)] 71)); have HM9 := Lib.hid ((HM8.out.below hb9).alloc (.cells #[.int .i64 (t4.k : Int), .string (bs t4.s), .int .i64 t4.n, .bool t4.q, .int .i64 (a4 : Int)] 71)); have HS9 := Lib.hid ((HS8.out.below hb9).alloc (.cells #[.int .i64 (t4.k : Int), .string (bs t4.s), .int .i64 t4.n, .bool t4.q, .int .i64 (a4 : Int)] 71)); have TT0 := (cell_of_row (w9.alloc (.cells #[.int .i64 (t4.k : Int), .string (bs t4.s), .int .i64 t4.n, .bool t4.q, .int .i64 (a4 : Int)] 71)) w9.heap.size 0 _ _ _ (heap_alloc_new w9 _)); clear hb9 hbq))
              | (go_at_call 69; ((with_reducible refine (HM41.out _).mono ?_); rintro e w10 ⟨rfl, hbm⟩; have H810 := Lib.hid (H89.out.below hbm); have HO10 := Lib.hid (o_kb HO9.out hbm); have HK10 := Lib.hid (HK9.out.below hbm); have HB10 := Lib.hid (HB9.out.trans (hbm.mono HB9.out.size)); have HM10 := Lib.hid (HM9.out.below hbm); have HS10 := Lib.hid (HS9.out.below hbm); have T0' := cell_below hbm (cell_of_row (w9.alloc (.cells #[.int .i64 (t4.k : Int), .string (bs t4.s), .int .i64 t4.n, .bool t4.q, .int .i64 (a4 : Int)] 71)) w9.heap.size 0 _ _ _ (heap_alloc_new w9 _)); have T1' := cell_below hbm (cell_of_row (w9.alloc (.cells #[.int .i64 (t4.k : Int), .string (bs t4.s), .int .i64 t4.n, .bool t4.q, .int .i64 (a4 : Int)] 71)) w9.heap.size 1 _ _ _ (heap_alloc_new w9 _)); have T2' := cell_below hbm (cell_of_row (w9.alloc (.cells #[.int .i64 (t4.k : Int), .string (bs t4.s), .int .i64 t4.n, .bool t4.q, .int .i64 (a4 : Int)] 71)) w9.heap.size 2 _ _ _ (heap_alloc_new w9 _)); have T3' := cell_below hbm (cell_of_row (w9.alloc (.cells #[.int .i64 (t4.k : Int), .string (bs t4.s), .int .i64 t4.n, .bool t4.q, .int .i64 (a4 : Int)] 71)) w9.heap.size 3 _ _ _ (heap_alloc_new w9 _)); have T4' := cell_below hbm (cell_of_row (w9.alloc (.cells #[.int .i64 (t4.k : Int), .string (bs t4.s), .int .i64 t4.n, .bool t4.q, .int .i64 (a4 : Int)] 71)) w9.heap.size 4 _ _ _ (heap_alloc_new w9 _));  clear hbm))
              | (go_at_call 69; ((with_reducible refine (HM44.out _).mono ?_); rintro e w11 ⟨rfl, hbm⟩; have H811 := Lib.hid (H810.out.below hbm); have HO11 := Lib.hid (o_kb HO10.out hbm); have HK11 := Lib.hid (HK10.out.below hbm); have HB11 := Lib.hid (HB10.out.trans (hbm.mono HB10.out.size)); have HM11 := Lib.hid (HM10.out.below hbm); have HS11 := Lib.hid (HS10.out.below hbm); have U0 := cell_below hbm T0'; have U1 := cell_below hbm T1'; have U2 := cell_below hbm T2'; have U3 := cell_below hbm T3'; have U4 := cell_below hbm T4'; have c0 := H811.out.c0; have c1 := H811.out.c1; have t0 := HK11.out.c0; have t1 := HK11.out.c1; have t2' := HK11.out.c2; have s0 := HS11.out.c0; have s1 := HS11.out.c1; have s2 := HS11.out.c2; have f0 := HS11.out.fr 0; have f1 := HS11.out.fr 1; have f2 := HS11.out.fr 2; have m0 := HM11.out.c0; have m1 := HM11.out.c1; have g0 := HM11.out.fr 0; have g1 := HM11.out.fr 1; clear hbm)))
            go_region_with (first
              | (go_at_call 71; ((with_reducible refine (HFL.out _).mono ?_); rintro e wf ⟨rfl, hbf⟩; have HMF := Lib.hid (HM11.out.drew.below hbf); have HSF := Lib.hid (HS11.out.drew.below hbf); have H8F := Lib.hid (H811.out.drew.below hbf); have hbx := HB11.out.drew; have HBF := Lib.hid (hbx.trans (hbf.mono hbx.size)); have c0 := H8F.out.c0; have c1 := H8F.out.c1; have s0 := HSF.out.c0; have s1 := HSF.out.c1; have s2 := HSF.out.c2; have f0 := HSF.out.fr 0; have f1 := HSF.out.fr 1; have f2 := HSF.out.fr 2; have m0 := HMF.out.c0; have m1 := HMF.out.c1; have g0 := HMF.out.fr 0; have g1 := HMF.out.fr 1; clear hbf hbx))
              | (go_at_call 71; ((with_reducible refine (HFL.out _).mono ?_); rintro e wf ⟨rfl, hbf⟩; have HMB := Lib.hid ((HM11.out.set (.string (bs t.s)) (.slice A9 (m + 1) c9)).drew.below hbf); have HSF := Lib.hid ((HS11.out.farIsAt (T2 := w.heap.size + 1) (by omega) (.string (bs t.s)) (.slice A9 (m + 1) c9)).drew.below hbf); have H8F := Lib.hid ((H811.out.farIsAt (T2 := w.heap.size + 1) (by omega) (.string (bs t.s)) (.slice A9 (m + 1) c9)).drew.below hbf); have hbx := (below_IsAt HB11.out (T := w.heap.size + 1) (by omega) (.string (bs t.s)) (.slice A9 (m + 1) c9)).drew; have HBF := Lib.hid (hbx.trans (hbf.mono hbx.size)); have c0 := H8F.out.c0; have c1 := H8F.out.c1; have s0 := HSF.out.c0; have s1 := HSF.out.c1; have s2 := HSF.out.c2; have f0 := HSF.out.fr 0; have f1 := HSF.out.fr 1; have f2 := HSF.out.fr 2; have m0 := HMB.out.c0; have m1 := HMB.out.c1; have g0 := HMB.out.fr 0; have g1 := HMB.out.fr 1; clear hbf hbx)))
            all_goals (go_wp2_with fail)
            all_goals (first
              | (have hm1 := (HMF.out.set (.string (bs t.s)) (.slice A9 (m + 1) c9)).farIsSt (T2 := w.heap.size + 1 + 1) (by omega) (.int .i64 0) (.int .i64 2) (.int .i64 (a4 : Int)); have hs1 := (HSF.out.farIsAt (T2 := w.heap.size + 1) (by omega) (.string (bs t.s)) (.slice A9 (m + 1) c9)).set (.int .i64 0) (.int .i64 2) (.int .i64 (a4 : Int)); have hbz := below_IsSt (below_IsAt HBF.out (T := w.heap.size + 1) (by omega) (.string (bs t.s)) (.slice A9 (m + 1) c9)) (T := w.heap.size + 1 + 1) (by omega) (.int .i64 0) (.int .i64 2) (.int .i64 (a4 : Int)); have r0 := hs1.c0; have r1 := hs1.c1; have r2 := hs1.c2; have q0 := hm1.c0; have q1 := hm1.c1; refine bodyPost_ret (v := .tuple #[.agg #[.string (bs t.s), .slice A9 (m + 1) c9], .agg #[.int .i64 0, .int .i64 2, .int .i64 (a4 : Int)]]) (by simp [results, Tryz.results38, go_sem, r0, r1, r2, q0, q1]) rfl ⟨(by first | exact hbz | exact hbz.drew), ?_⟩; unfold RAtomIs; rw [HEND.out]; exact ⟨_, _, _, _, rfl⟩)
              | (have hm1 := (HMF.out.farIsSt (T2 := w.heap.size + 1 + 1) (by omega) (.int .i64 0) (.int .i64 2) (.int .i64 (a4 : Int))).set (.string (bs t.s)) (.slice A9 (m + 1) c9); have hs1 := (HSF.out.set (.int .i64 0) (.int .i64 2) (.int .i64 (a4 : Int))).farIsAt (T2 := w.heap.size + 1) (by omega) (.string (bs t.s)) (.slice A9 (m + 1) c9); have hbz := below_IsAt (below_IsSt HBF.out (T := w.heap.size + 1 + 1) (by omega) (.int .i64 0) (.int .i64 2) (.int .i64 (a4 : Int))) (T := w.heap.size + 1) (by omega) (.string (bs t.s)) (.slice A9 (m + 1) c9); have r0 := hs1.c0; have r1 := hs1.c1; have r2 := hs1.c2; have q0 := hm1.c0; have q1 := hm1.c1; refine bodyPost_ret (v := .tuple #[.agg #[.string (bs t.s), .slice A9 (m + 1) c9], .agg #[.int .i64 0, .int .i64 2, .int .i64 (a4 : Int)]]) (by simp [results, Tryz.results38, go_sem, r0, r1, r2, q0, q1]) rfl ⟨(by first | exact hbz | exact hbz.drew), ?_⟩; unfold RAtomIs; rw [HEND.out]; exact ⟨_, _, _, _, rfl⟩)
              | (have hm1 := HMB.out.farIsSt (T2 := w.heap.size + 1 + 1) (by omega) (.int .i64 0) (.int .i64 2) (.int .i64 (a4 : Int)); have hs1 := HSF.out.set (.int .i64 0) (.int .i64 2) (.int .i64 (a4 : Int)); have hbz := below_IsSt HBF.out (T := w.heap.size + 1 + 1) (by omega) (.int .i64 0) (.int .i64 2) (.int .i64 (a4 : Int)); have r0 := hs1.c0; have r1 := hs1.c1; have r2 := hs1.c2; have q0 := hm1.c0; have q1 := hm1.c1; refine bodyPost_ret (v := .tuple #[.agg #[.string (bs t.s), .slice A9 (m + 1) c9], .agg #[.int .i64 0, .int .i64 2, .int .i64 (a4 : Int)]]) (by simp [results, Tryz.results38, go_sem, r0, r1, r2, q0, q1]) rfl ⟨(by first | exact hbz | exact hbz.drew), ?_⟩; unfold RAtomIs; rw [HEND.out]; exact ⟨_, _, _, _, rfl⟩)
              )
          | true =>
            have HM44 := Lib.hid (fun (W : World) => (show Calls Tryz.prog 69 #[.agg #[.int .i64 (t4.k : Int), .string (bs t4.s), .int .i64 t4.n, .bool t4.q, .int .i64 (a4 : Int)], .string ⟨#[44]⟩] W (fun e w' => e = .returned (.bool true) ∧ Below W.heap.size W w') from rmark_calls t4.k t4.s t4.n t4.q a4 [44] true W v44))
            have hi44 : isM N (L.drop (k + 1)) 0 [44] = true := by unfold isM; rw [HP4.out]; exact v44
            have hk2 := isM_lt hi44
            have HK2 := Lib.hid (show k + 2 ≤ n from by rw [HNL.out]; omega)
            have HEQ2 := Lib.hid (show someP (termP N) N 6 (L.drop (i + 2)) = sapp (xs ++ [x]) (someP (termP N) N q (L.drop (k + 2))) from by
              rw [HEQ.out, hi44, if_pos rfl, drop_tail, ← sapp_sapp]
              congr 1)
            clear v41 v44 hi44 hk2
            go_wp2_with (first
              | (go_at_call 70; ((with_reducible refine (HA4.out _ HT8.out).mono ?_); rintro e w9 ⟨rfl, hb9⟩; have H89 := Lib.hid ((H88.out.below hb9).alloc (.cells #[.int .i64 (t4.k : Int), .string (bs t4.s), .int .i64 t4.n, .bool t4.q, .int .i64 (a4 : Int)] 71)); have HO9 := Lib.hid (o_kb (o_kb HO8.out hb9) ((Below.refl w9.heap.size w9).alloc (Nat.le_refl _) (.cells #[.int .i64 (t4.k : Int), .string (bs t4.s), .int .i64 t4.n, .bool t4.q, .int .i64 (a4 : Int)] 71))); have HK9 := Lib.hid ((HK8.out.below hb9).alloc (.cells #[.int .i64 (t4.k : Int), .string (bs t4.s), .int .i64 t4.n, .bool t4.q, .int .i64 (a4 : Int)] 71)); have hbq := HBB8.out.trans (hb9.mono HBB8.out.size); have HBB9 := Lib.hid (hbq.alloc hbq.size (.cells #[.int .i64 (t4.k : Int), .string (bs t4.s), .int .i64 t4.n, .bool t4.q, .int .i64 (a4 : Int)] 71)); have TT0 := cell_of_row (w9.alloc (.cells #[.int .i64 (t4.k : Int), .string (bs t4.s), .int .i64 t4.n, .bool t4.q, .int .i64 (a4 : Int)] 71)) w9.heap.size 0 _ _ _ (heap_alloc_new w9 _); clear hb9 hbq))
              | (go_at_call 69; ((with_reducible refine (HM41.out _).mono ?_); rintro e w10 ⟨rfl, hb10⟩; have H810 := Lib.hid (H89.out.below hb10); have HO10 := Lib.hid (o_kb HO9.out hb10); have HK10 := Lib.hid (HK9.out.below hb10); have HBB10 := Lib.hid (HBB9.out.trans (hb10.mono HBB9.out.size)); have T0' := cell_below hb10 (cell_of_row (w9.alloc (.cells #[.int .i64 (t4.k : Int), .string (bs t4.s), .int .i64 t4.n, .bool t4.q, .int .i64 (a4 : Int)] 71)) w9.heap.size 0 _ _ _ (heap_alloc_new w9 _)); have T1' := cell_below hb10 (cell_of_row (w9.alloc (.cells #[.int .i64 (t4.k : Int), .string (bs t4.s), .int .i64 t4.n, .bool t4.q, .int .i64 (a4 : Int)] 71)) w9.heap.size 1 _ _ _ (heap_alloc_new w9 _)); have T2' := cell_below hb10 (cell_of_row (w9.alloc (.cells #[.int .i64 (t4.k : Int), .string (bs t4.s), .int .i64 t4.n, .bool t4.q, .int .i64 (a4 : Int)] 71)) w9.heap.size 2 _ _ _ (heap_alloc_new w9 _)); have T3' := cell_below hb10 (cell_of_row (w9.alloc (.cells #[.int .i64 (t4.k : Int), .string (bs t4.s), .int .i64 t4.n, .bool t4.q, .int .i64 (a4 : Int)] 71)) w9.heap.size 3 _ _ _ (heap_alloc_new w9 _)); have T4' := cell_below hb10 (cell_of_row (w9.alloc (.cells #[.int .i64 (t4.k : Int), .string (bs t4.s), .int .i64 t4.n, .bool t4.q, .int .i64 (a4 : Int)] 71)) w9.heap.size 4 _ _ _ (heap_alloc_new w9 _));  clear hb10))
              | (go_at_call 69; ((with_reducible refine (HM44.out _).mono ?_); rintro e w11 ⟨rfl, hb11⟩; have H811 := Lib.hid (H810.out.below hb11); have HO11 := Lib.hid (o_kb HO10.out hb11); have HK11 := Lib.hid (HK10.out.below hb11); have HBB11 := Lib.hid (HBB10.out.trans (hb11.mono HBB10.out.size)); have u0 := HK11.out.c0; clear hb11)))
            go_roundw
            case rel => exact ⟨k + 2, xs ++ [x], .slice A9 (m + 1) c9, HK2.out, by rw [List.length_append, HM.out]; simp; omega, by simp [Int.add_assoc], H811.out, by rw [List.length_append, HM.out]; exact HO11.out, HBB11.out, by rw [HEQ2.out, List.length_append, HM.out, show 6 - (m + [x].length) = q from by simp; omega]⟩
            case measure => (simp [intOf] <;> omega)
end Go.Proofs.YtminbdcabacfbaaGreatDoor.V

namespace Go.Proofs.YtminbdcabacfbaaGreatDoor.V
set_option linter.unusedVariables false
set_option linter.unusedSimpArgs false
open Go.RowKit

theorem rblank5_calls (c : Int) (w : World) : Calls Tryz.prog 96 #[.int .u8 c] w fun e w' => e = .returned (.bool (blankI c)) ∧ w = w' := by
  unfold blankI
  cases h1 : (c == 9) <;> cases h2 : (c == 10) <;> cases h3 : (c == 13) <;> cases h4 : (c == 32) <;>
  · go_enter Tryz.func96, Tryz.ntmps96
    go_wp2
    go_ret
    exact ⟨by simp, rfl⟩
theorem rsmall5_calls (c : Int) (w : World) : Calls Tryz.prog 97 #[.int .u8 c] w fun e w' => e = .returned (.bool (sml c)) ∧ w = w' := by
  unfold sml
  cases h1 : decide (97 ≤ c) <;> cases h2 : decide (c ≤ 122) <;>
  · go_enter Tryz.func97, Tryz.ntmps97
    go_wp2
    go_ret
    exact ⟨by simp, rfl⟩
theorem rbig5_calls (c : Int) (w : World) : Calls Tryz.prog 98 #[.int .u8 c] w fun e w' => e = .returned (.bool (bgI c)) ∧ w = w' := by
  unfold bgI
  cases h1 : decide (65 ≤ c) <;> cases h2 : decide (c ≤ 90) <;>
  · go_enter Tryz.func98, Tryz.ntmps98
    go_wp2
    go_ret
    exact ⟨by simp, rfl⟩
theorem rfig5_calls (c : Int) (w : World) : Calls Tryz.prog 100 #[.int .u8 c] w fun e w' => e = .returned (.bool (figI c)) ∧ w = w' := by
  unfold figI
  cases h1 : decide (48 ≤ c) <;> cases h2 : decide (c ≤ 57) <;>
  · go_enter Tryz.func100, Tryz.ntmps100
    go_wp2
    go_ret
    exact ⟨by simp, rfl⟩
theorem rword5_calls (c : Int) (w : World) : Calls Tryz.prog 99 #[.int .u8 c] w fun e w' => e = .returned (.bool (wrdI c)) ∧ w = w' := by
  unfold wrdI
  cases h1 : sml c <;> cases h2 : bgI c <;> cases h3 : figI c <;> cases h4 : (c == 95) <;>
  · go_enter Tryz.func99, Tryz.ntmps99
    go_wp2_with (first
      | (go_at_call 97; with_reducible refine (rsmall5_calls _ _).mono ?_; rintro e w' ⟨rfl, rfl⟩; rw [h1])
      | (go_at_call 98; with_reducible refine (rbig5_calls _ _).mono ?_; rintro e w' ⟨rfl, rfl⟩; rw [h2])
      | (go_at_call 100; with_reducible refine (rfig5_calls _ _).mono ?_; rintro e w' ⟨rfl, rfl⟩; rw [h3]))
    go_ret
    exact ⟨by simp, rfl⟩
theorem skipR_cons (m : Bool) (c : UInt8) (t : List UInt8) : skipR m (c :: t) = if !(m || c == 37) && !ofB blankI c then c :: t else skipR ((m || c == 37) && !(c == 10)) t := rfl
theorem byte_eq (c : UInt8) (n : Nat) (h : n < 256) : ((c.toNat : Int) == (n : Int)) = (c == UInt8.ofNat n) := by
  rw [Bool.eq_iff_iff]
  simp only [beq_iff_eq]
  constructor
  · intro e
    apply UInt8.toNat_inj.1
    rw [UInt8.toNat_ofNat']
    omega
  · intro e
    rw [e, UInt8.toNat_ofNat']
    omega

set_option maxRecDepth 100000 in
set_option maxHeartbeats 4000000 in
theorem rskip_calls (s : ByteArray) (a : Nat) (w : World) (ha : a ≤ s.size) (hs : s.size ≤ 65536) :
    Calls Tryz.prog 66 #[.string s, .int .i64 (a : Int)] w fun e w' => w = w' ∧ ∃ b : Nat, e = .returned (.int .i64 (b : Int)) ∧ a ≤ b ∧ b ≤ s.size ∧ s.data.toList.drop b = skipR false (s.data.toList.drop a) := by
  go_enter Tryz.func66, Tryz.ntmps66
  go_wp2_with fail
  go_loopw [1, 5] (fun i m wr => ∃ (k : Nat) (b : Bool), k ≤ s.size ∧ a ≤ k ∧ i = .int .i64 (k : Int) ∧ m = .bool b ∧ skipR b (s.data.toList.drop k) = skipR false (s.data.toList.drop a) ∧ w = wr) (fun i _ _ => s.size + 1 - (intOf i).toNat)
  case atStart => exact ⟨a, false, ha, Nat.le_refl _, rfl, rfl, rfl, rfl⟩
  case round =>
    obtain ⟨k, b, hk, hak, rfl, rfl, hr, rfl⟩ := hrel
    have HR := Lib.hid hr
    by_cases hlt : k < s.size
    · have hd : decide ((k : Int) < (s.size : Int)) = true := decide_eq_true (by omega)
      rw [drop_at hlt, skipR_cons] at hr
      have e37 := byte_eq (s[k]'hlt) 37 (by omega)
      have e10 := byte_eq (s[k]'hlt) 10 (by omega)
      cases h37 : (((s[k]'hlt).toNat : Int) == 37) with
      | true =>
        have hc : s[k]'hlt = 37 := beq_iff_eq.1 (e37.symm.trans h37)
        have h10 : (((s[k]'hlt).toNat : Int) == 10) = false := by rw [hc]; rfl
        have HQ := Lib.hid (show skipR true (s.data.toList.drop (k + 1)) = skipR false (s.data.toList.drop a) from by rw [← hr, hc]; simp)
        clear hr e37 e10 hc
        go_wp2_with fail
        go_roundw
        case rel => exact ⟨k + 1, true, hlt, by omega, by simp, rfl, HQ.out, trivial⟩
        case measure => simp [intOf]; omega
      | false =>
        cases b with
        | true =>
          cases h10 : (((s[k]'hlt).toNat : Int) == 10) with
          | true =>
            have HQ := Lib.hid (show skipR false (s.data.toList.drop (k + 1)) = skipR false (s.data.toList.drop a) from by rw [← hr, show (s[k] == 10) = true from e10.symm.trans h10]; simp)
            clear hr e37 e10
            go_wp2_with fail
            go_roundw
            case rel => exact ⟨k + 1, false, hlt, by omega, by simp, rfl, HQ.out, trivial⟩
            case measure => simp [intOf]; omega
          | false =>
            have HQ := Lib.hid (show skipR true (s.data.toList.drop (k + 1)) = skipR false (s.data.toList.drop a) from by rw [← hr, show (s[k] == 10) = false from e10.symm.trans h10]; simp)
            clear hr e37 e10
            go_wp2_with fail
            go_roundw
            case rel => exact ⟨k + 1, true, hlt, by omega, by simp, rfl, HQ.out, trivial⟩
            case measure => simp [intOf]; omega
        | false =>
          cases hbl : blankI ((s[k]'hlt).toNat : Int) with
          | false =>
            have HQ := Lib.hid (show s.data.toList.drop k = skipR false (s.data.toList.drop a) from by rw [← hr, show (s[k] == 37) = false from e37.symm.trans h37, show ofB blankI s[k] = false from hbl, drop_at hlt]; simp)
            clear hr e37 e10
            go_wp2_with (go_at_call 96; with_reducible refine (rblank5_calls _ _).mono ?_; rintro e w' ⟨rfl, rfl⟩; rw [hbl])
            go_ret
            exact ⟨rfl, k, rfl, hak, hk, HQ.out⟩
          | true =>
            have hq : skipR false (s.data.toList.drop (k + 1)) = skipR false (s.data.toList.drop a) := by rw [← hr, show (s[k] == 37) = false from e37.symm.trans h37, show ofB blankI s[k] = true from hbl]; simp
            have HQ := Lib.hid hq
            clear hr e37 e10 hq
            cases h10 : (((s[k]'hlt).toNat : Int) == 10) with
            | true =>
              go_wp2_with (go_at_call 96; with_reducible refine (rblank5_calls _ _).mono ?_; rintro e w' ⟨rfl, rfl⟩; rw [hbl])
              go_roundw
              case rel => exact ⟨k + 1, false, hlt, by omega, by simp, rfl, HQ.out, trivial⟩
              case measure => simp [intOf]; omega
            | false =>
              go_wp2_with (go_at_call 96; with_reducible refine (rblank5_calls _ _).mono ?_; rintro e w' ⟨rfl, rfl⟩; rw [hbl])
              go_roundw
              case rel => exact ⟨k + 1, false, hlt, by omega, by simp, rfl, HQ.out, trivial⟩
              case measure => simp [intOf]; omega
    · have hkn : k = s.size := by omega
      have hd : decide ((k : Int) < (s.size : Int)) = false := decide_eq_false (by omega)
      have HQ := Lib.hid (show s.data.toList.drop k = skipR false (s.data.toList.drop a) from by rw [← hr, drop_end (by omega)]; cases b <;> rfl)
      clear hr hlt
      go_wp2_with fail
      go_ret
      exact ⟨rfl, k, rfl, hak, hk, HQ.out⟩
end Go.Proofs.YtminbdcabacfbaaGreatDoor.V

namespace Go.Proofs.YtminbdcabacfbaaGreatDoor.V
set_option linter.unusedVariables false
set_option linter.unusedSimpArgs false
open Go.RowKit

/-- The document's answer's block. -/
def IsGot (T : Nat) (v0 v1 v2 v3 v4 v5 v6 : Value) (w : World) : Prop := w.heap[T]? = some (.cells #[v0, v1, v2, v3, v4, v5, v6] 115 (0, 0))
section
variable {T : Nat} {v0 v1 v2 v3 v4 v5 v6 : Value} {w : World}
theorem IsGot.c0 (h : IsGot T v0 v1 v2 v3 v4 v5 v6 w) : w.cell? ⟨T, 0, none⟩ = some v0 := cell_of_row w T 0 _ _ _ h
theorem IsGot.c1 (h : IsGot T v0 v1 v2 v3 v4 v5 v6 w) : w.cell? ⟨T, 1, none⟩ = some v1 := cell_of_row w T 1 _ _ _ h
theorem IsGot.c2 (h : IsGot T v0 v1 v2 v3 v4 v5 v6 w) : w.cell? ⟨T, 2, none⟩ = some v2 := cell_of_row w T 2 _ _ _ h
theorem IsGot.c3 (h : IsGot T v0 v1 v2 v3 v4 v5 v6 w) : w.cell? ⟨T, 3, none⟩ = some v3 := cell_of_row w T 3 _ _ _ h
theorem IsGot.c4 (h : IsGot T v0 v1 v2 v3 v4 v5 v6 w) : w.cell? ⟨T, 4, none⟩ = some v4 := cell_of_row w T 4 _ _ _ h
theorem IsGot.c5 (h : IsGot T v0 v1 v2 v3 v4 v5 v6 w) : w.cell? ⟨T, 5, none⟩ = some v5 := cell_of_row w T 5 _ _ _ h
theorem IsGot.c6 (h : IsGot T v0 v1 v2 v3 v4 v5 v6 w) : w.cell? ⟨T, 6, none⟩ = some v6 := cell_of_row w T 6 _ _ _ h
theorem IsGot.fr (h : IsGot T v0 v1 v2 v3 v4 v5 v6 w) (i : Nat) : w.frozen? ⟨T, i, none⟩ = false := frozen_of_row w T i _ _ h
theorem IsGot.lt (h : IsGot T v0 v1 v2 v3 v4 v5 v6 w) : T < w.heap.size := (Array.getElem?_eq_some_iff.1 h).1
theorem IsGot.new (w : World) : IsGot w.heap.size v0 v1 v2 v3 v4 v5 v6 (w.alloc (.cells #[v0, v1, v2, v3, v4, v5, v6] 115)) := heap_alloc_new w _
theorem IsGot.grown {w' : World} {row : Option Nat} (h : IsGot T v0 v1 v2 v3 v4 v5 v6 w) (hg : w.grownBy w' row) (hne : some T ≠ row) : IsGot T v0 v1 v2 v3 v4 v5 v6 w' := (hg.block T (Array.getElem?_eq_some_iff.1 h).1 hne).trans h
theorem IsGot.below {w' : World} (h : IsGot T v0 v1 v2 v3 v4 v5 v6 w) (hb : Below w.heap.size w w') : IsGot T v0 v1 v2 v3 v4 v5 v6 w' := (hb.block T h.lt).trans h
end
abbrev gotSet (T : Nat) (u0 u1 u2 u3 u4 u5 u6 : Value) (w : World) : World := ((((((w.setCell ⟨T, 0, none⟩ u0).setCell ⟨T, 1, none⟩ u1).setCell ⟨T, 2, none⟩ u2).setCell ⟨T, 3, none⟩ u3).setCell ⟨T, 4, none⟩ u4).setCell ⟨T, 5, none⟩ u5).setCell ⟨T, 6, none⟩ u6
theorem IsGot.set0 {T : Nat} {v0 v1 v2 v3 v4 v5 v6 : Value} {w : World} (h : IsGot T v0 v1 v2 v3 v4 v5 v6 w) (u : Value) : IsGot T u v1 v2 v3 v4 v5 v6 (w.setCell ⟨T, 0, none⟩ u) := set_block h u
theorem IsGot.set1 {T : Nat} {v0 v1 v2 v3 v4 v5 v6 : Value} {w : World} (h : IsGot T v0 v1 v2 v3 v4 v5 v6 w) (u : Value) : IsGot T v0 u v2 v3 v4 v5 v6 (w.setCell ⟨T, 1, none⟩ u) := set_block h u
theorem IsGot.set2 {T : Nat} {v0 v1 v2 v3 v4 v5 v6 : Value} {w : World} (h : IsGot T v0 v1 v2 v3 v4 v5 v6 w) (u : Value) : IsGot T v0 v1 u v3 v4 v5 v6 (w.setCell ⟨T, 2, none⟩ u) := set_block h u
theorem IsGot.set3 {T : Nat} {v0 v1 v2 v3 v4 v5 v6 : Value} {w : World} (h : IsGot T v0 v1 v2 v3 v4 v5 v6 w) (u : Value) : IsGot T v0 v1 v2 u v4 v5 v6 (w.setCell ⟨T, 3, none⟩ u) := set_block h u
theorem IsGot.set4 {T : Nat} {v0 v1 v2 v3 v4 v5 v6 : Value} {w : World} (h : IsGot T v0 v1 v2 v3 v4 v5 v6 w) (u : Value) : IsGot T v0 v1 v2 v3 u v5 v6 (w.setCell ⟨T, 4, none⟩ u) := set_block h u
theorem IsGot.set5 {T : Nat} {v0 v1 v2 v3 v4 v5 v6 : Value} {w : World} (h : IsGot T v0 v1 v2 v3 v4 v5 v6 w) (u : Value) : IsGot T v0 v1 v2 v3 v4 u v6 (w.setCell ⟨T, 5, none⟩ u) := set_block h u
theorem IsGot.set6 {T : Nat} {v0 v1 v2 v3 v4 v5 v6 : Value} {w : World} (h : IsGot T v0 v1 v2 v3 v4 v5 v6 w) (u : Value) : IsGot T v0 v1 v2 v3 v4 v5 u (w.setCell ⟨T, 6, none⟩ u) := set_block h u
theorem IsGot.set {T : Nat} {v0 v1 v2 v3 v4 v5 v6 : Value} {w : World} (h : IsGot T v0 v1 v2 v3 v4 v5 v6 w) (u0 u1 u2 u3 u4 u5 u6 : Value) : IsGot T u0 u1 u2 u3 u4 u5 u6 (gotSet T u0 u1 u2 u3 u4 u5 u6 w) :=
  ((((((h.set0 u0).set1 u1).set2 u2).set3 u3).set4 u4).set5 u5).set6 u6
theorem below_gotSet {B T : Nat} {w w' : World} (h : Below B w w') (hT : B ≤ T) (u0 u1 u2 u3 u4 u5 u6 : Value) : Below B w (gotSet T u0 u1 u2 u3 u4 u5 u6 w') :=
  ((((((h.setCell (p := ⟨T, 0, none⟩) hT _).setCell (p := ⟨T, 1, none⟩) hT _).setCell (p := ⟨T, 2, none⟩) hT _).setCell (p := ⟨T, 3, none⟩) hT _).setCell (p := ⟨T, 4, none⟩) hT _).setCell (p := ⟨T, 5, none⟩) hT _).setCell (p := ⟨T, 6, none⟩) hT _

/-- The document's answer of what stands at a text's place. -/
def gotV (N : Nat) : Got → Value
  | .bad e => .agg #[.int .i64 0, .string ⟨#[]⟩, .int .i64 0, .bool false, .int .i64 0, .int .i64 0, .int .i64 (e : Int)]
  | .tok t r => .agg #[.int .i64 (t.k : Int), .string (bs t.s), .int .i64 t.n, .bool t.q, .int .i64 0, .int .i64 ((N - r.length : Nat) : Int), .int .i64 0]
theorem drop_len {s : ByteArray} {k : Nat} (h : k ≤ s.size) : s.size - (s.data.toList.drop k).length = k := by
  have : (s.data.toList.drop k).length = s.size - k := by simp
  omega

/-- What quoted keeps, round by round. -/
structure RQ (s : ByteArray) (a k : Nat) (w W : World) (v : Value) (acc : List UInt8) : Prop where
  hk : IsGot w.heap.size (.int .i64 0) (.string ⟨#[]⟩) (.int .i64 0) (.bool false) (.int .i64 0) (.int .i64 0) (.int .i64 0) W
  ho : W.ownsRow (w.heap.size + 1) 5 1 v acc.length (u8V acc)
  hz : acc = [] → v = .slice none 0 0
  hn : acc.length ≤ k
  hb : Below w.heap.size w W
  hq : quotL (s.data.toList.drop a) = (quotL (s.data.toList.drop k)).map fun p => (acc ++ p.1, p.2)
theorem RQ.conv {s : ByteArray} {a k n c : Nat} {A : Option Addr} {w W : World} {acc : List UInt8} (h : RQ s a k w W (.slice A n c) acc) :
    (convert 82 9 (.slice A n c)).run Tryz.prog W = .ok (.string ⟨acc.toArray⟩) W := by
  by_cases he : acc = []
  · have hz := h.hz he
    cases hz
    rw [he]
    exact u8_nil W
  · have ho := h.ho
    have hn : acc.length = n := by
      have := ho.1
      rcases ho.2 with ⟨hv, h2⟩ | ⟨g, cap, cur, hv, _⟩
      · cases hv
        omega
      · cases hv
        rfl
    rw [hn] at ho
    exact u8_conv ho (by cases acc with | nil => exact absurd rfl he | cons => simp)
/-- A byte more. -/
theorem RQ.more {s : ByteArray} {a k k' m c : Nat} {A : Option Addr} {b : UInt8} {w W W2 : World} {v : Value} {acc : List UInt8} (h : RQ s a k w W v acc)
    (ho : W2.ownsRow (w.heap.size + 1) 5 1 (.slice A m c) m (u8V acc ++ [.int .u8 (b.toNat : Int)])) (hm : m = acc.length + 1) (hg2 : W.grownBy W2 v.ownBlock) (hk : acc.length + 1 ≤ k')
    (hq : quotL (s.data.toList.drop k) = (quotL (s.data.toList.drop k')).map fun p => (b :: p.1, p.2)) : RQ s a k' w W2 (.slice A m c) (acc ++ [b]) := by
  have ho1 : ∀ j, v.ownBlock = some j → w.heap.size + 1 ≤ j := fun j hj => o_from h.ho j hj
  exact
    { hk := h.hk.grown hg2 (fun e => by have := ho1 _ e.symm; omega)
      ho := by
        rw [List.length_append, List.length_singleton, u8V_snoc, ← hm]
        exact ho
      hz := fun e => by simp at e
      hn := by simpa using hk
      hb := h.hb.grown hg2 h.hb.size (fun j hj => by have := ho1 j hj; omega)
      hq := by
        rw [h.hq, hq]
        cases quotL (s.data.toList.drop k') <;> simp }

set_option maxRecDepth 100000 in
set_option maxHeartbeats 8000000 in
theorem rquoted_calls (s : ByteArray) (a : Nat) (w : World) (ha : a ≤ s.size) (hs : s.size ≤ 65536) :
    Calls Tryz.prog 102 #[.string s, .int .i64 (a : Int)] w fun e w' => Below w.heap.size w w' ∧ e = .returned (gotV s.size (qres (quotL (s.data.toList.drop a)))) := by
  have HS := Lib.hid (show RQ s a a w (w.alloc (.cells #[.int .i64 0, .string ⟨#[]⟩, .int .i64 0, .bool false, .int .i64 0, .int .i64 0, .int .i64 0] 115)) (.slice none 0 0) [] from
    { hk := IsGot.new w
      ho := World.ownsRow_nil _ _ _ _
      hz := fun _ => rfl
      hn := Nat.zero_le _
      hb := (Below.refl w.heap.size w).alloc (Nat.le_refl _) _
      hq := by simp })
  go_enter Tryz.func102, Tryz.ntmps102
  go_wp2_with fail
  go_loopw [1, 5] (fun i v wr => ∃ k acc, k ≤ s.size ∧ i = .int .i64 (k : Int) ∧ RQ s a k w wr v acc) (fun i _ _ => s.size + 1 - (intOf i).toNat)
  case atStart => exact ⟨a, [], ha, rfl, HS.out⟩
  case round =>
    obtain ⟨k, acc, hk, rfl, hW⟩ := hrel
    obtain ⟨A, c, rfl⟩ := o_slice hW.ho
    have HW := Lib.hid hW
    have k0 := hW.hk.c0; have k1 := hW.hk.c1; have k2 := hW.hk.c2; have k3 := hW.hk.c3; have k4 := hW.hk.c4; have k5 := hW.hk.c5; have k6 := hW.hk.c6
    have l0 := hW.hk.fr 0; have l1 := hW.hk.fr 1; have l2 := hW.hk.fr 2; have l3 := hW.hk.fr 3; have l4 := hW.hk.fr 4; have l5 := hW.hk.fr 5; have l6 := hW.hk.fr 6
    have HK := Lib.hid hk
    clear hW
    by_cases hkl : k < s.size
    · have hd : decide ((k : Int) < (s.size : Int)) = true := decide_eq_true (by omega)
      have HDR := Lib.hid (drop_at hkl)
      cases h39 : (((s[k]'hkl).toNat : Int) == 39) with
      | true =>
        have HQ := Lib.hid (show quotL (s.data.toList.drop k) = some ([], s.data.toList.drop (k + 1)) by rw [HDR.out, byteN (d := 39) h39 (by decide), q39])
        have hcv := HW.out.conv
        go_wp2_with fail
        have hset := HW.out.hk.set (.int .i64 1) (.string ⟨acc.toArray⟩) (.int .i64 0) (.bool true) (.int .i64 0) (.int .i64 ((k : Int) + 1)) (.int .i64 0)
        have r0 := hset.c0
        have r1 := hset.c1
        have r2 := hset.c2
        have r3 := hset.c3
        have r4 := hset.c4
        have r5 := hset.c5
        have r6 := hset.c6
        refine bodyPost_ret (v := .agg #[.int .i64 1, .string ⟨acc.toArray⟩, .int .i64 0, .bool true, .int .i64 0, .int .i64 ((k : Int) + 1), .int .i64 0]) (by simp [results, Tryz.results102, go_sem, r0, r1, r2, r3, r4, r5, r6]) rfl ⟨below_gotSet HW.out.hb (Nat.le_refl _) _ _ _ _ _ _ _, ?_⟩
        rw [HW.out.hq, HQ.out]
        show _ = Ending.returned (.agg #[.int .i64 1, .string (bs (acc ++ [])), .int .i64 0, .bool true, .int .i64 0, .int .i64 ((s.size - (s.data.toList.drop (k + 1)).length : Nat) : Int), .int .i64 0])
        rw [List.append_nil, drop_len hkl]
        rfl
      | false =>
        have H39 := Lib.hid (byteNot (d := 39) h39 (by decide))
        cases h10 : (((s[k]'hkl).toNat : Int) == 10) with
        | true =>
          have HQ := Lib.hid (show quotL (s.data.toList.drop k) = none by rw [HDR.out, byteN (d := 10) h10 (by decide), q10])
          go_wp2_with fail
          have hset := HW.out.hk.set (.int .i64 0) (.string ⟨#[]⟩) (.int .i64 0) (.bool false) (.int .i64 0) (.int .i64 0) (.int .i64 2)
          have r0 := hset.c0
          have r1 := hset.c1
          have r2 := hset.c2
          have r3 := hset.c3
          have r4 := hset.c4
          have r5 := hset.c5
          have r6 := hset.c6
          refine bodyPost_ret (v := .agg #[.int .i64 0, .string ⟨#[]⟩, .int .i64 0, .bool false, .int .i64 0, .int .i64 0, .int .i64 2]) (by simp [results, Tryz.results102, go_sem, r0, r1, r2, r3, r4, r5, r6]) rfl ⟨below_gotSet HW.out.hb (Nat.le_refl _) _ _ _ _ _ _ _, ?_⟩
          rw [HW.out.hq, HQ.out]
          rfl
        | false =>
          have H10 := Lib.hid (byteNot (d := 10) h10 (by decide))
          cases h92 : (((s[k]'hkl).toNat : Int) == 92) with
          | true =>
            have H92 := Lib.hid (byteN (d := 92) h92 (by decide))
            by_cases hk2 : k + 1 < s.size
            · have he : decide ((s.size : Int) ≤ (k : Int) + 1) = false := decide_eq_false (by omega)
              have HDR2 := Lib.hid (drop_at hk2)
              cases h110 : (((s[k + 1]'hk2).toNat : Int) == 110) with
              | true =>
                have n110 : (((s[k + 1]'hk2).toNat : Int) != 110) = false := by unfold bne; rw [h110]; rfl
                have HQ := Lib.hid (show quotL (s.data.toList.drop k) = (quotL (s.data.toList.drop (k + 2))).map fun p => ((10 : UInt8) :: p.1, p.2) by
                  rw [HDR.out, H92.out, HDR2.out, q92, byteN (d := 110) h110 (by decide)]
                  rfl)
                go_wp2_with (at_builtin; refine RowKit.Hid.out ?_)
                refine Lib.hid ?_
                refine o_app (W := wr) rfl (.tmp 57) (.tmp 59) 82 5 rfl (.int .u8 0) 1 1 Tryz.underlying82 u8_info rfl (by decide) (by decide) #[.int .u8 (((10 : UInt8).toNat : Int))] rfl (by intro u hu; simp at hu; subst hu; rfl) (.slice A acc.length c) acc.length (u8V acc) (by rfl) HW.out.ho (by rfl) (by have := HW.out.hn; omega) (by have := HW.out.hk.lt; omega) ?_
                intro A2 c2 W2 ho2 hg2
                have HM := Lib.hid (HW.out.more ho2 rfl hg2 (k' := k + 2) (by have := HW.out.hn; omega) HQ.out)
                clear ho2 hg2
                go_wp2_with fail
                go_roundw
                case rel => exact ⟨k + 2, acc ++ [10], by omega, by simp <;> omega, HM.out⟩
                case measure => (simp [intOf] <;> omega)
              | false =>
                have n110 : (((s[k + 1]'hk2).toNat : Int) != 110) = true := by unfold bne; rw [h110]; rfl
                have H110 := Lib.hid (byteNot (d := 110) h110 (by decide))
                cases g92 : (((s[k + 1]'hk2).toNat : Int) == 92) with
                | true =>
                  have n92 : (((s[k + 1]'hk2).toNat : Int) != 92) = false := by unfold bne; rw [g92]; rfl
                  have HQ := Lib.hid (show quotL (s.data.toList.drop k) = (quotL (s.data.toList.drop (k + 2))).map fun p => (s[k + 1] :: p.1, p.2) by
                    rw [HDR.out, H92.out, HDR2.out, q92, byteN (d := 92) g92 (by decide)]
                    rfl)
                  go_wp2_with (at_builtin; refine RowKit.Hid.out ?_)
                  refine Lib.hid ?_
                  refine o_app (W := wr) rfl (.tmp 57) (.tmp 59) 82 5 rfl (.int .u8 0) 1 1 Tryz.underlying82 u8_info rfl (by decide) (by decide) #[.int .u8 (((s[k + 1]'hk2).toNat : Int))] rfl (by intro u hu; simp at hu; subst hu; rfl) (.slice A acc.length c) acc.length (u8V acc) (by rfl) HW.out.ho (by rfl) (by have := HW.out.hn; omega) (by have := HW.out.hk.lt; omega) ?_
                  intro A2 c2 W2 ho2 hg2
                  have HM := Lib.hid (HW.out.more ho2 rfl hg2 (k' := k + 2) (by have := HW.out.hn; omega) HQ.out)
                  clear ho2 hg2
                  go_wp2_with fail
                  go_roundw
                  case rel => exact ⟨k + 2, acc ++ [s[k + 1]], by omega, by simp <;> omega, HM.out⟩
                  case measure => (simp [intOf] <;> omega)
                | false =>
                  have n92 : (((s[k + 1]'hk2).toNat : Int) != 92) = true := by unfold bne; rw [g92]; rfl
                  have G92 := Lib.hid (byteNot (d := 92) g92 (by decide))
                  cases g39 : (((s[k + 1]'hk2).toNat : Int) == 39) with
                  | true =>
                    have n39 : (((s[k + 1]'hk2).toNat : Int) != 39) = false := by unfold bne; rw [g39]; rfl
                    have HQ := Lib.hid (show quotL (s.data.toList.drop k) = (quotL (s.data.toList.drop (k + 2))).map fun p => (s[k + 1] :: p.1, p.2) by
                      rw [HDR.out, H92.out, HDR2.out, q92, byteN (d := 39) g39 (by decide)]
                      rfl)
                    go_wp2_with (at_builtin; refine RowKit.Hid.out ?_)
                    refine Lib.hid ?_
                    refine o_app (W := wr) rfl (.tmp 57) (.tmp 59) 82 5 rfl (.int .u8 0) 1 1 Tryz.underlying82 u8_info rfl (by decide) (by decide) #[.int .u8 (((s[k + 1]'hk2).toNat : Int))] rfl (by intro u hu; simp at hu; subst hu; rfl) (.slice A acc.length c) acc.length (u8V acc) (by rfl) HW.out.ho (by rfl) (by have := HW.out.hn; omega) (by have := HW.out.hk.lt; omega) ?_
                    intro A2 c2 W2 ho2 hg2
                    have HM := Lib.hid (HW.out.more ho2 rfl hg2 (k' := k + 2) (by have := HW.out.hn; omega) HQ.out)
                    clear ho2 hg2
                    go_wp2_with fail
                    go_roundw
                    case rel => exact ⟨k + 2, acc ++ [s[k + 1]], by omega, by simp <;> omega, HM.out⟩
                    case measure => (simp [intOf] <;> omega)
                  | false =>
                    have n39 : (((s[k + 1]'hk2).toNat : Int) != 39) = true := by unfold bne; rw [g39]; rfl
                    have HQ := Lib.hid (show quotL (s.data.toList.drop k) = none by
                      rw [HDR.out, H92.out, HDR2.out, q92, H110.out, G92.out, byteNot (d := 39) g39 (by decide)]
                      rfl)
                    go_wp2_with fail
                    have hset := HW.out.hk.set (.int .i64 0) (.string ⟨#[]⟩) (.int .i64 0) (.bool false) (.int .i64 0) (.int .i64 0) (.int .i64 2)
                    have r0 := hset.c0
                    have r1 := hset.c1
                    have r2 := hset.c2
                    have r3 := hset.c3
                    have r4 := hset.c4
                    have r5 := hset.c5
                    have r6 := hset.c6
                    refine bodyPost_ret (v := .agg #[.int .i64 0, .string ⟨#[]⟩, .int .i64 0, .bool false, .int .i64 0, .int .i64 0, .int .i64 2]) (by simp [results, Tryz.results102, go_sem, r0, r1, r2, r3, r4, r5, r6]) rfl ⟨below_gotSet HW.out.hb (Nat.le_refl _) _ _ _ _ _ _ _, ?_⟩
                    rw [HW.out.hq, HQ.out]
                    rfl
            · have he : decide ((s.size : Int) ≤ (k : Int) + 1) = true := decide_eq_true (by omega)
              have HQ := Lib.hid (show quotL (s.data.toList.drop k) = none by rw [HDR.out, H92.out, drop_end (by omega)]; rfl)
              go_wp2_with fail
              have hset := HW.out.hk.set (.int .i64 0) (.string ⟨#[]⟩) (.int .i64 0) (.bool false) (.int .i64 0) (.int .i64 0) (.int .i64 2)
              have r0 := hset.c0
              have r1 := hset.c1
              have r2 := hset.c2
              have r3 := hset.c3
              have r4 := hset.c4
              have r5 := hset.c5
              have r6 := hset.c6
              refine bodyPost_ret (v := .agg #[.int .i64 0, .string ⟨#[]⟩, .int .i64 0, .bool false, .int .i64 0, .int .i64 0, .int .i64 2]) (by simp [results, Tryz.results102, go_sem, r0, r1, r2, r3, r4, r5, r6]) rfl ⟨below_gotSet HW.out.hb (Nat.le_refl _) _ _ _ _ _ _ _, ?_⟩
              rw [HW.out.hq, HQ.out]
              rfl
          | false =>
            have HQ := Lib.hid (show quotL (s.data.toList.drop k) = (quotL (s.data.toList.drop (k + 1))).map fun p => (s[k] :: p.1, p.2) by rw [HDR.out, qother _ _ H39.out H10.out (byteNot (d := 92) h92 (by decide))])
            go_wp2_with (at_builtin; refine RowKit.Hid.out ?_)
            refine Lib.hid ?_
            refine o_app (W := wr) rfl (.tmp 57) (.tmp 59) 82 5 rfl (.int .u8 0) 1 1 Tryz.underlying82 u8_info rfl (by decide) (by decide) #[.int .u8 (((s[k]'hkl).toNat : Int))] rfl (by intro u hu; simp at hu; subst hu; rfl) (.slice A acc.length c) acc.length (u8V acc) (by rfl) HW.out.ho (by rfl) (by have := HW.out.hn; omega) (by have := HW.out.hk.lt; omega) ?_
            intro A2 c2 W2 ho2 hg2
            have HM := Lib.hid (HW.out.more ho2 rfl hg2 (k' := k + 1) (by have := HW.out.hn; omega) HQ.out)
            clear ho2 hg2
            go_wp2_with fail
            go_roundw
            case rel => exact ⟨k + 1, acc ++ [s[k]], by omega, by simp <;> omega, HM.out⟩
            case measure => (simp [intOf] <;> omega)
    · have hd : decide ((k : Int) < (s.size : Int)) = false := decide_eq_false (by omega)
      have HQ := Lib.hid (show quotL (s.data.toList.drop k) = none by rw [drop_end (by omega)]; rfl)
      go_wp2_with fail
      have hset := HW.out.hk.set (.int .i64 0) (.string ⟨#[]⟩) (.int .i64 0) (.bool false) (.int .i64 0) (.int .i64 0) (.int .i64 2)
      have r0 := hset.c0
      have r1 := hset.c1
      have r2 := hset.c2
      have r3 := hset.c3
      have r4 := hset.c4
      have r5 := hset.c5
      have r6 := hset.c6
      refine bodyPost_ret (v := .agg #[.int .i64 0, .string ⟨#[]⟩, .int .i64 0, .bool false, .int .i64 0, .int .i64 0, .int .i64 2]) (by simp [results, Tryz.results102, go_sem, r0, r1, r2, r3, r4, r5, r6]) rfl ⟨below_gotSet HW.out.hb (Nat.le_refl _) _ _ _ _ _ _ _, ?_⟩
      rw [HW.out.hq, HQ.out]
      rfl
end Go.Proofs.YtminbdcabacfbaaGreatDoor.V

namespace Go.Proofs.YtminbdcabacfbaaGreatDoor.V
set_option linter.unusedVariables false
set_option linter.unusedSimpArgs false

/-- What figures spell, behind others. -/
def digF (a : Nat) (c : UInt8) : Nat := a * 10 + (c.toNat - 48)
def valF (acc : Nat) (l : List UInt8) : Nat := l.foldl digF acc
def allFig (l : List UInt8) : Prop := ∀ c ∈ l, ofB figI c = true

theorem fig_of {c : UInt8} (h : ofB figI c = true) : 48 ≤ c.toNat ∧ c.toNat ≤ 57 := by
  simp only [ofB, figI, Bool.and_eq_true, decide_eq_true_eq] at h
  omega
theorem of_fig {c : UInt8} (h1 : 48 ≤ c.toNat) (h2 : c.toNat ≤ 57) : ofB figI c = true := by
  simp only [ofB, figI, Bool.and_eq_true, decide_eq_true_eq]
  omega
theorem valF_nil (acc : Nat) : valF acc [] = acc := rfl
theorem valF_cons (acc : Nat) (c : UInt8) (r : List UInt8) : valF acc (c :: r) = valF (acc * 10 + (c.toNat - 48)) r := by
  unfold valF
  rw [List.foldl_cons, digF]
theorem valF_ge (l : List UInt8) : ∀ acc : Nat, acc ≤ valF acc l := by
  induction l with
  | nil => intro acc; exact Nat.le_refl _
  | cons c r ih =>
    intro acc
    have h := ih (acc * 10 + (c.toNat - 48))
    rw [valF_cons]
    omega
theorem valF_lt (l : List UInt8) : ∀ acc : Nat, allFig l → valF acc l < (acc + 1) * 10 ^ l.length := by
  induction l with
  | nil => intro acc _; rw [valF_nil, List.length_nil, Nat.pow_zero]; omega
  | cons c r ih =>
    intro acc h
    have h1 := ih (acc * 10 + (c.toNat - 48)) (fun x hx => h x (List.mem_cons_of_mem _ hx))
    have h2 := fig_of (h c (List.mem_cons_self ..))
    rw [valF_cons, List.length_cons, Nat.pow_succ, Nat.mul_comm (10 ^ _) 10, ← Nat.mul_assoc]
    refine Nat.lt_of_lt_of_le h1 (Nat.mul_le_mul_right _ ?_)
    omega
theorem valF_app (a b : List UInt8) (acc : Nat) : valF acc (a ++ b) = valF (valF acc a) b := List.foldl_append
theorem parseM_val (l : List UInt8) : ∀ acc : Nat, allFig l → acc ≤ 18446744073709551615 → Lib.parseUintM 18446744073709551615 acc l = if 18446744073709551615 < valF acc l then .range else .ok (valF acc l) := by
  induction l with
  | nil => intro acc _ h; rw [Lib.parseUintM, valF_nil, if_neg (by omega)]
  | cons c r ih =>
    intro acc h ha
    have h2 := fig_of (h c (List.mem_cons_self ..))
    have h3 : allFig r := fun x hx => h x (List.mem_cons_of_mem _ hx)
    have h4 := valF_ge r (acc * 10 + (c.toNat - 48))
    rw [Lib.parseUintM, if_pos h2, valF_cons]
    by_cases h5 : 1844674407370955162 ≤ acc
    · rw [if_pos h5, if_pos (by omega)]
    · rw [if_neg h5]
      by_cases h6 : 18446744073709551615 < acc * 10 + (c.toNat - 48)
      · rw [if_pos h6, if_pos (by omega)]
      · rw [if_neg h6]
        exact ih _ h3 (by omega)
theorem parseU_val (l : List UInt8) (h : allFig l) (h0 : l ≠ []) : Lib.parseUintB 64 l = if 18446744073709551615 < valF 0 l then .range else .ok (valF 0 l) := by
  unfold Lib.parseUintB
  rw [if_neg h0]
  exact parseM_val l 0 h (by omega)
theorem parseI_low (l : List UInt8) (h : allFig l) (h0 : l ≠ []) : Lib.parseIntB 64 (45 :: l) = if 9223372036854775808 < valF 0 l then .range else .ok (-(valF 0 l : Int)) := by
  rw [Lib.parseIntB_minus, parseU_val l h h0]
  by_cases h1 : 18446744073709551615 < valF 0 l
  · rw [if_pos h1, if_pos (by omega)]; rfl
  · rw [if_neg h1]
    by_cases h2 : 9223372036854775808 < valF 0 l
    · rw [if_pos h2]
      exact if_pos h2
    · rw [if_neg h2]
      exact if_neg h2
theorem parseI_high (c : UInt8) (l : List UInt8) (h : allFig (c :: l)) : Lib.parseIntB 64 (c :: l) = if 9223372036854775808 ≤ valF 0 (c :: l) then .range else .ok (valF 0 (c :: l) : Int) := by
  have hc := fig_of (h c (List.mem_cons_self ..))
  rw [Lib.parseIntB_plain 64 c l (by omega) (by omega), parseU_val _ h (by simp)]
  by_cases h1 : 18446744073709551615 < valF 0 (c :: l)
  · rw [if_pos h1, if_pos (by omega)]; rfl
  · rw [if_neg h1]
    by_cases h2 : 9223372036854775808 ≤ valF 0 (c :: l)
    · rw [if_pos h2]
      exact if_pos h2
    · rw [if_neg h2]
      exact if_neg h2

theorem digs (u : Nat) : allFig (Lib.decDigits u) ∧ Lib.decDigits u ≠ [] ∧ valF 0 (Lib.decDigits u) = u := by
  induction u using Nat.strongRecOn with
  | _ u ih =>
    have hd : ∀ d, d < 10 → (UInt8.ofNat (48 + d)).toNat = 48 + d := by
      intro d hd
      rw [UInt8.toNat_ofNat']
      omega
    rw [Lib.decDigits]
    split
    · rename_i h
      refine ⟨?_, by simp, ?_⟩
      · intro c hc
        rw [List.mem_singleton.1 hc]
        have := hd u h
        exact of_fig (by omega) (by omega)
      · have := hd u h
        rw [valF_cons, valF_nil]
        omega
    · rename_i h
      obtain ⟨a, b, c⟩ := ih (u / 10) (by omega)
      have h1 := hd (u % 10) (by omega)
      refine ⟨?_, by simp, ?_⟩
      · intro x hx
        rcases List.mem_append.1 hx with hx | hx
        · exact a x hx
        · rw [List.mem_singleton.1 hx]
          exact of_fig (by omega) (by omega)
      · rw [valF_app, c]
        rw [valF_cons, valF_nil]
        omega
theorem digs_len (u : Nat) : ∀ k, u < 10 ^ (k + 1) → (Lib.decDigits u).length ≤ k + 1 := by
  induction u using Nat.strongRecOn with
  | _ u ih =>
    intro k hk
    rw [Lib.decDigits]
    split
    · simp
    · rename_i h
      match k with
      | 0 => simp at hk; omega
      | k + 1 =>
        have := ih (u / 10) (by omega) k (by rw [Nat.pow_succ] at hk; omega)
        simp
        omega
end Go.Proofs.YtminbdcabacfbaaGreatDoor.V
