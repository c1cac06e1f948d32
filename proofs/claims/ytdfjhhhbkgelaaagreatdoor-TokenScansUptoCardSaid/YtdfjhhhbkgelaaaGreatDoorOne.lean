/- (*text).one: the token at a place. -/
import Derived.Test.YtdfjhhhbkgelaaaGreatDoorQuot
import Derived.BigQuiet
import Derived.Deep.QuietTactic
namespace Go.Proofs.YtdfjhhhbkgelaaaGreatDoor.V
set_option linter.unusedVariables false
set_option linter.unusedSimpArgs false
open Go.RowKit

/-- What a scanner hands back, cell by cell. -/
def OneV (X : Nat) (s : ByteArray) (g : Got) (W : World) (k : Int) (t : ByteArray) (n : Int) (q : Bool) (er : Int) : Prop := match g with
  | .bad m => k = 0 ∧ t = ⟨#[]⟩ ∧ n = 0 ∧ q = false ∧ er = (m : Int) ∧ ∃ b, IsText X s b W
  | .tok u r => k = (u.k : Int) ∧ t = ⟨u.s.toArray⟩ ∧ n = u.n ∧ q = u.q ∧ er = 0 ∧ ∃ b, b ≤ s.size ∧ s.data.toList.drop b = r ∧ IsText X s b W
theorem OneIs.cells {X : Nat} {s : ByteArray} {g : Got} {w w' : World} {e : Ending} (h : OneIs X s g w e w') : ∃ k t n q er, e = .returned (.tuple #[.agg #[.int .i64 k, .string t, .int .i64 n, .bool q, .int .i64 0], .int .i64 er]) ∧ w.grownBy w' (some X) ∧ OneV X s g w' k t n q er := by
  obtain ⟨hg, h⟩ := h
  cases g with
  | bad m =>
    obtain ⟨he, hb⟩ := h
    exact ⟨_, _, _, _, _, he, hg, rfl, rfl, rfl, rfl, rfl, hb⟩
  | tok u r =>
    obtain ⟨he, hb⟩ := h
    exact ⟨_, _, _, _, _, he, hg, rfl, rfl, rfl, rfl, rfl, hb⟩
theorem OneV.back {X : Nat} {s : ByteArray} {g : Got} {w w' W : World} {k n er : Int} {t : ByteArray} {q : Bool} (h : OneV X s g w' k t n q er) (hW : ∀ b, IsText X s b w' → IsText X s b W) (hg : w.grownBy W (some X)) :
    OneIs X s g w (.returned (.tuple #[.agg #[.int .i64 k, .string t, .int .i64 n, .bool q, .int .i64 0], .int .i64 er])) W := by
  refine ⟨hg, ?_⟩
  cases g with
  | bad m =>
    obtain ⟨rfl, rfl, rfl, rfl, rfl, b, hb⟩ := h
    exact ⟨rfl, b, hW b hb⟩
  | tok u r =>
    obtain ⟨rfl, rfl, rfl, rfl, rfl, b, hb, hd, hT⟩ := h
    exact ⟨rfl, b, hb, hd, hW b hT⟩
theorem named1_calls (X : Nat) (s : ByteArray) (a : Nat) (w : World) (hT : IsText X s a w) (ha : a ≤ s.size) (hs : s.size ≤ 65536) :
    Calls Tryz.prog 35 #[.pointer (some ⟨X, 0, none⟩), .int .i64 1] w (OneIs X s (namedL 1 (s.data.toList.drop a)) w) := named_calls 1 X s a w hT ha hs
theorem named2_calls (X : Nat) (s : ByteArray) (a : Nat) (w : World) (hT : IsText X s a w) (ha : a ≤ s.size) (hs : s.size ≤ 65536) :
    Calls Tryz.prog 35 #[.pointer (some ⟨X, 0, none⟩), .int .i64 2] w (OneIs X s (namedL 2 (s.data.toList.drop a)) w) := named_calls 2 X s a w hT ha hs
theorem prefix45 (c : UInt8) (t : List UInt8) : Lib.hasPrefix (c :: t) [45] = (c == 45) := by
  unfold Lib.hasPrefix
  simp only [List.isPrefixOf, Bool.and_true]
  cases h : (45 == c) <;> cases h2 : (c == 45) <;> simp_all
theorem moreB_at {P : Int → Bool} {s : ByteArray} {a : Nat} (h : a < s.size) : moreB P s a = ofB P s[a] := by unfold moreB; rw [dif_pos h]

set_option maxRecDepth 100000 in
set_option maxHeartbeats 4000000 in
theorem one_small (X : Nat) (s : ByteArray) (a : Nat) (w : World) (hT : IsText X s a w) (ha : a < s.size) (hs : s.size ≤ 65536) (hE : ErrW w) (h45 : (s[a] == 45) = false) (h1 : ofB sml s[a] = true) :
    Calls Tryz.prog 17 #[.pointer (some ⟨X, 0, none⟩)] w (OneIs X s (namedL 1 (s.data.toList.drop a)) w) := by
  have hx := hT.grown (World.grownBy_alloc w (.cells #[.int .i64 0, .string ⟨#[]⟩, .int .i64 0, .bool false, .int .i64 0] 35) none) (by simp)
  have x0 := hx.cell0
  have x1 := hx.cell1
  have HX := Lib.hid hx
  have C0 := Lib.hid x0
  have C1 := Lib.hid x1
  have HLT := Lib.hid hT.lt
  have HK := Lib.hid (IsTok.new (v0 := .int .i64 0) (v1 := .string ⟨#[]⟩) (v2 := .int .i64 0) (v3 := .bool false) (v4 := .int .i64 0) w)
  have HE := Lib.hid (hE.below ((Below.refl w.heap.size w).alloc (Nat.le_refl _) (.cells #[.int .i64 0, .string ⟨#[]⟩, .int .i64 0, .bool false, .int .i64 0] 35)))
  have HP := Lib.hid (show Lib.hasPrefix (s.extract a s.size).data.toList [45] = false by
    rw [show (s.extract a s.size).data.toList = s.data.toList.drop a by
      simp only [ByteArray.data_extract, Array.toList_extract, List.extract]
      rw [List.take_of_length_le (by simp)], drop_at ha, prefix45, h45])
  have HA := Lib.hid (show a ≤ s.size by omega)
  have HPC := Lib.hid (show ∀ w, Calls Tryz.prog 31 #[.string (s.extract a s.size), .string ⟨#[45]⟩] w fun e w' => e = .returned (.bool false) ∧ w' = w from fun w => by rw [← HP.out]; exact Tryz.strings_HasPrefix _ _ _)
  have ha2 : a ≤ s.size := HA.out
  have M0 := Lib.hid (show moreB sml s a = true by rw [moreB_at ha]; exact h1)
  have b39 := 0
  clear b39 hT hx hE h45 h1
  go_enter Tryz.func17, Tryz.ntmps17
  go_wp2_with fail
  go_quiet (first | (go_at_call 31; refine Calls.quiet_of_same (HPC.out _)))
  generalize hW1 : World.drewN _ _ = W1
  have HX1 := Lib.hid (show IsText X s a W1 by rw [← hW1]; exact HX.out)
  have HK1 := Lib.hid (show IsTok w.heap.size (.int .i64 0) (.string ⟨#[]⟩) (.int .i64 0) (.bool false) (.int .i64 0) W1 by rw [← hW1]; exact HK.out)
  have HE1 := Lib.hid (show ErrW W1 by rw [← hW1]; exact HE.out)
  have HG1 := Lib.hid (show w.grownBy W1 (some X) by rw [← hW1]; exact grown_trans (World.grownBy_alloc w (.cells #[.int .i64 0, .string ⟨#[]⟩, .int .i64 0, .bool false, .int .i64 0] 35) _) (grown_below (below_drewN' (Below.refl _ _) _) _))
  have c0 := HX1.out.cell0
  have c1 := HX1.out.cell1
  clear hW1 x0 x1
  go_wp2_with (first
    | (go_at_call 26; (with_reducible refine (more_calls en_small tsmall_calls X s a _ ?_).mono ?_); (focus (exact HX1.out)); rintro e w' ⟨rfl, rfl⟩; rw [M0.out])
    | (go_at_call 35; (with_reducible refine (named1_calls X s a _ ?_ HA.out hs).mono ?_); (focus (exact HX1.out)); rintro e w2 ho; obtain ⟨k, t, n, q, er, rfl, hg2, hv⟩ := ho.cells; have hk2 := HK1.out.grown (row := some X) (grown_trans (grown_drew (World.grownBy.refl _ (some X))) hg2) (by have := HLT.out; simp; omega); have k0 := hk2.c0; have k1 := hk2.c1; have k2 := hk2.c2; have k3 := hk2.c3; have k4 := hk2.c4; have l0 := hk2.fr 0; have l1 := hk2.fr 1; have l2 := hk2.fr 2; have l3 := hk2.fr 3; have l4 := hk2.fr 4; have HK2 := Lib.hid hk2; have HG2 := Lib.hid hg2; have HV := Lib.hid hv; clear hk2 hg2 hv ho))
  have hset := HK2.out.set (.int .i64 k) (.string t) (.int .i64 n) (.bool q) (.int .i64 0)
  have r0 := hset.c0; have r1 := hset.c1; have r2 := hset.c2; have r3 := hset.c3; have r4 := hset.c4
  refine bodyPost_ret (v := .tuple #[.agg #[.int .i64 k, .string t, .int .i64 n, .bool q, .int .i64 0], .int .i64 er]) (by simp [results, Tryz.results17, go_sem, r0, r1, r2, r3, r4]) rfl ?_
  exact HV.out.back (fun b hb => hb.tokSet (by have := HLT.out; omega) _ _ _ _ _) (grown_tokSet (grown_trans HG1.out (grown_trans (grown_drew (World.grownBy.refl _ (some X))) HG2.out)) (Nat.le_refl _) _ _ _ _ _)

set_option maxRecDepth 100000 in
set_option maxHeartbeats 4000000 in
theorem one_big (X : Nat) (s : ByteArray) (a : Nat) (w : World) (hT : IsText X s a w) (ha : a < s.size) (hs : s.size ≤ 65536) (hE : ErrW w) (h45 : (s[a] == 45) = false) (h1 : ofB sml s[a] = false) (h2 : ofB bgI s[a] = true) :
    Calls Tryz.prog 17 #[.pointer (some ⟨X, 0, none⟩)] w (OneIs X s (namedL 2 (s.data.toList.drop a)) w) := by
  have hx := hT.grown (World.grownBy_alloc w (.cells #[.int .i64 0, .string ⟨#[]⟩, .int .i64 0, .bool false, .int .i64 0] 35) none) (by simp)
  have x0 := hx.cell0
  have x1 := hx.cell1
  have HX := Lib.hid hx
  have C0 := Lib.hid x0
  have C1 := Lib.hid x1
  have HLT := Lib.hid hT.lt
  have HK := Lib.hid (IsTok.new (v0 := .int .i64 0) (v1 := .string ⟨#[]⟩) (v2 := .int .i64 0) (v3 := .bool false) (v4 := .int .i64 0) w)
  have HE := Lib.hid (hE.below ((Below.refl w.heap.size w).alloc (Nat.le_refl _) (.cells #[.int .i64 0, .string ⟨#[]⟩, .int .i64 0, .bool false, .int .i64 0] 35)))
  have HP := Lib.hid (show Lib.hasPrefix (s.extract a s.size).data.toList [45] = false by
    rw [show (s.extract a s.size).data.toList = s.data.toList.drop a by
      simp only [ByteArray.data_extract, Array.toList_extract, List.extract]
      rw [List.take_of_length_le (by simp)], drop_at ha, prefix45, h45])
  have HA := Lib.hid (show a ≤ s.size by omega)
  have HPC := Lib.hid (show ∀ w, Calls Tryz.prog 31 #[.string (s.extract a s.size), .string ⟨#[45]⟩] w fun e w' => e = .returned (.bool false) ∧ w' = w from fun w => by rw [← HP.out]; exact Tryz.strings_HasPrefix _ _ _)
  have ha2 : a ≤ s.size := HA.out
  have M0 := Lib.hid (show moreB sml s a = false by rw [moreB_at ha]; exact h1)
  have M1 := Lib.hid (show moreB bgI s a = true by rw [moreB_at ha]; exact h2)
  have b39 := 0
  clear b39 hT hx hE h45 h1 h2
  go_enter Tryz.func17, Tryz.ntmps17
  go_wp2_with fail
  go_quiet (first | (go_at_call 31; refine Calls.quiet_of_same (HPC.out _)))
  generalize hW1 : World.drewN _ _ = W1
  have HX1 := Lib.hid (show IsText X s a W1 by rw [← hW1]; exact HX.out)
  have HK1 := Lib.hid (show IsTok w.heap.size (.int .i64 0) (.string ⟨#[]⟩) (.int .i64 0) (.bool false) (.int .i64 0) W1 by rw [← hW1]; exact HK.out)
  have HE1 := Lib.hid (show ErrW W1 by rw [← hW1]; exact HE.out)
  have HG1 := Lib.hid (show w.grownBy W1 (some X) by rw [← hW1]; exact grown_trans (World.grownBy_alloc w (.cells #[.int .i64 0, .string ⟨#[]⟩, .int .i64 0, .bool false, .int .i64 0] 35) _) (grown_below (below_drewN' (Below.refl _ _) _) _))
  have c0 := HX1.out.cell0
  have c1 := HX1.out.cell1
  clear hW1 x0 x1
  go_wp2_with (first
    | (go_at_call 26; (with_reducible refine (more_calls en_small tsmall_calls X s a _ ?_).mono ?_); (focus (exact HX1.out)); rintro e w' ⟨rfl, rfl⟩; rw [M0.out])
    | (go_at_call 26; (with_reducible refine (more_calls en_big tbig_calls X s a _ ?_).mono ?_); (focus (exact HX1.out)); rintro e w' ⟨rfl, rfl⟩; rw [M1.out])
    | (go_at_call 35; (with_reducible refine (named2_calls X s a _ ?_ HA.out hs).mono ?_); (focus (exact HX1.out)); rintro e w2 ho; obtain ⟨k, t, n, q, er, rfl, hg2, hv⟩ := ho.cells; have hk2 := HK1.out.grown (row := some X) (grown_trans (grown_drew (grown_drew (World.grownBy.refl _ (some X)))) hg2) (by have := HLT.out; simp; omega); have k0 := hk2.c0; have k1 := hk2.c1; have k2 := hk2.c2; have k3 := hk2.c3; have k4 := hk2.c4; have l0 := hk2.fr 0; have l1 := hk2.fr 1; have l2 := hk2.fr 2; have l3 := hk2.fr 3; have l4 := hk2.fr 4; have HK2 := Lib.hid hk2; have HG2 := Lib.hid hg2; have HV := Lib.hid hv; clear hk2 hg2 hv ho))
  have hset := HK2.out.set (.int .i64 k) (.string t) (.int .i64 n) (.bool q) (.int .i64 0)
  have r0 := hset.c0; have r1 := hset.c1; have r2 := hset.c2; have r3 := hset.c3; have r4 := hset.c4
  refine bodyPost_ret (v := .tuple #[.agg #[.int .i64 k, .string t, .int .i64 n, .bool q, .int .i64 0], .int .i64 er]) (by simp [results, Tryz.results17, go_sem, r0, r1, r2, r3, r4]) rfl ?_
  exact HV.out.back (fun b hb => hb.tokSet (by have := HLT.out; omega) _ _ _ _ _) (grown_tokSet (grown_trans HG1.out (grown_trans (grown_drew (grown_drew (World.grownBy.refl _ (some X)))) HG2.out)) (Nat.le_refl _) _ _ _ _ _)

set_option maxRecDepth 100000 in
set_option maxHeartbeats 4000000 in
theorem one_fig (X : Nat) (s : ByteArray) (a : Nat) (w : World) (hT : IsText X s a w) (ha : a < s.size) (hs : s.size ≤ 65536) (hE : ErrW w) (h45 : (s[a] == 45) = false) (h1 : ofB sml s[a] = false) (h2 : ofB bgI s[a] = false) (h3 : ofB figI s[a] = true) :
    Calls Tryz.prog 17 #[.pointer (some ⟨X, 0, none⟩)] w (OneIs X s (numL s[a] (s.data.toList.drop (a + 1))) w) := by
  have hx := hT.grown (World.grownBy_alloc w (.cells #[.int .i64 0, .string ⟨#[]⟩, .int .i64 0, .bool false, .int .i64 0] 35) none) (by simp)
  have x0 := hx.cell0
  have x1 := hx.cell1
  have HX := Lib.hid hx
  have C0 := Lib.hid x0
  have C1 := Lib.hid x1
  have HLT := Lib.hid hT.lt
  have HK := Lib.hid (IsTok.new (v0 := .int .i64 0) (v1 := .string ⟨#[]⟩) (v2 := .int .i64 0) (v3 := .bool false) (v4 := .int .i64 0) w)
  have HE := Lib.hid (hE.below ((Below.refl w.heap.size w).alloc (Nat.le_refl _) (.cells #[.int .i64 0, .string ⟨#[]⟩, .int .i64 0, .bool false, .int .i64 0] 35)))
  have HP := Lib.hid (show Lib.hasPrefix (s.extract a s.size).data.toList [45] = false by
    rw [show (s.extract a s.size).data.toList = s.data.toList.drop a by
      simp only [ByteArray.data_extract, Array.toList_extract, List.extract]
      rw [List.take_of_length_le (by simp)], drop_at ha, prefix45, h45])
  have HA := Lib.hid (show a ≤ s.size by omega)
  have HPC := Lib.hid (show ∀ w, Calls Tryz.prog 31 #[.string (s.extract a s.size), .string ⟨#[45]⟩] w fun e w' => e = .returned (.bool false) ∧ w' = w from fun w => by rw [← HP.out]; exact Tryz.strings_HasPrefix _ _ _)
  have ha2 : a ≤ s.size := HA.out
  have M0 := Lib.hid (show moreB sml s a = false by rw [moreB_at ha]; exact h1)
  have M1 := Lib.hid (show moreB bgI s a = false by rw [moreB_at ha]; exact h2)
  have M2 := Lib.hid (show moreB figI s a = true by rw [moreB_at ha]; exact h3)
  have b39 := 0
  clear b39 hT hx hE h45 h1 h2 h3
  go_enter Tryz.func17, Tryz.ntmps17
  go_wp2_with fail
  go_quiet (first | (go_at_call 31; refine Calls.quiet_of_same (HPC.out _)))
  generalize hW1 : World.drewN _ _ = W1
  have HX1 := Lib.hid (show IsText X s a W1 by rw [← hW1]; exact HX.out)
  have HK1 := Lib.hid (show IsTok w.heap.size (.int .i64 0) (.string ⟨#[]⟩) (.int .i64 0) (.bool false) (.int .i64 0) W1 by rw [← hW1]; exact HK.out)
  have HE1 := Lib.hid (show ErrW W1 by rw [← hW1]; exact HE.out)
  have HG1 := Lib.hid (show w.grownBy W1 (some X) by rw [← hW1]; exact grown_trans (World.grownBy_alloc w (.cells #[.int .i64 0, .string ⟨#[]⟩, .int .i64 0, .bool false, .int .i64 0] 35) _) (grown_below (below_drewN' (Below.refl _ _) _) _))
  have c0 := HX1.out.cell0
  have c1 := HX1.out.cell1
  clear hW1 x0 x1
  go_wp2_with (first
    | (go_at_call 26; (with_reducible refine (more_calls en_small tsmall_calls X s a _ ?_).mono ?_); (focus (exact HX1.out)); rintro e w' ⟨rfl, rfl⟩; rw [M0.out])
    | (go_at_call 26; (with_reducible refine (more_calls en_big tbig_calls X s a _ ?_).mono ?_); (focus (exact HX1.out)); rintro e w' ⟨rfl, rfl⟩; rw [M1.out])
    | (go_at_call 26; (with_reducible refine (more_calls en_fig tfig_calls X s a _ ?_).mono ?_); (focus (exact HX1.out)); rintro e w' ⟨rfl, rfl⟩; rw [M2.out])
    | (go_at_call 37; (with_reducible refine (number_calls X s a _ ?_ ha hs ?_).mono ?_); (focus (exact HX1.out)); (focus (exact HE1.out)); rintro e w2 ho; obtain ⟨k, t, n, q, er, rfl, hg2, hv⟩ := ho.cells; have hk2 := HK1.out.grown (row := some X) (grown_trans (grown_drew (grown_drew (grown_drew (World.grownBy.refl _ (some X))))) hg2) (by have := HLT.out; simp; omega); have k0 := hk2.c0; have k1 := hk2.c1; have k2 := hk2.c2; have k3 := hk2.c3; have k4 := hk2.c4; have l0 := hk2.fr 0; have l1 := hk2.fr 1; have l2 := hk2.fr 2; have l3 := hk2.fr 3; have l4 := hk2.fr 4; have HK2 := Lib.hid hk2; have HG2 := Lib.hid hg2; have HV := Lib.hid hv; clear hk2 hg2 hv ho))
  have hset := HK2.out.set (.int .i64 k) (.string t) (.int .i64 n) (.bool q) (.int .i64 0)
  have r0 := hset.c0; have r1 := hset.c1; have r2 := hset.c2; have r3 := hset.c3; have r4 := hset.c4
  refine bodyPost_ret (v := .tuple #[.agg #[.int .i64 k, .string t, .int .i64 n, .bool q, .int .i64 0], .int .i64 er]) (by simp [results, Tryz.results17, go_sem, r0, r1, r2, r3, r4]) rfl ?_
  exact HV.out.back (fun b hb => hb.tokSet (by have := HLT.out; omega) _ _ _ _ _) (grown_tokSet (grown_trans HG1.out (grown_trans (grown_drew (grown_drew (grown_drew (World.grownBy.refl _ (some X))))) HG2.out)) (Nat.le_refl _) _ _ _ _ _)

set_option maxRecDepth 100000 in
set_option maxHeartbeats 4000000 in
theorem one_neg (X : Nat) (s : ByteArray) (a : Nat) (w : World) (hT : IsText X s a w) (ha : a < s.size) (hs : s.size ≤ 65536) (hE : ErrW w) (h45 : (s[a] == 45) = true) (hk2 : a + 1 < s.size) (h4 : ofB figI s[a + 1] = true) (h1 : ofB sml s[a] = false) (h2 : ofB bgI s[a] = false) (h3 : ofB figI s[a] = false) :
    Calls Tryz.prog 17 #[.pointer (some ⟨X, 0, none⟩)] w (OneIs X s (numL s[a] (s.data.toList.drop (a + 1))) w) := by
  have hx := hT.grown (World.grownBy_alloc w (.cells #[.int .i64 0, .string ⟨#[]⟩, .int .i64 0, .bool false, .int .i64 0] 35) none) (by simp)
  have x0 := hx.cell0
  have x1 := hx.cell1
  have HX := Lib.hid hx
  have C0 := Lib.hid x0
  have C1 := Lib.hid x1
  have HLT := Lib.hid hT.lt
  have HK := Lib.hid (IsTok.new (v0 := .int .i64 0) (v1 := .string ⟨#[]⟩) (v2 := .int .i64 0) (v3 := .bool false) (v4 := .int .i64 0) w)
  have HE := Lib.hid (hE.below ((Below.refl w.heap.size w).alloc (Nat.le_refl _) (.cells #[.int .i64 0, .string ⟨#[]⟩, .int .i64 0, .bool false, .int .i64 0] 35)))
  have HP := Lib.hid (show Lib.hasPrefix (s.extract a s.size).data.toList [45] = true by
    rw [show (s.extract a s.size).data.toList = s.data.toList.drop a by
      simp only [ByteArray.data_extract, Array.toList_extract, List.extract]
      rw [List.take_of_length_le (by simp)], drop_at ha, prefix45, h45])
  have HA := Lib.hid (show a ≤ s.size by omega)
  have HPC := Lib.hid (show ∀ w, Calls Tryz.prog 31 #[.string (s.extract a s.size), .string ⟨#[45]⟩] w fun e w' => e = .returned (.bool true) ∧ w' = w from fun w => by rw [← HP.out]; exact Tryz.strings_HasPrefix _ _ _)
  have ha2 : a ≤ s.size := HA.out
  have M0 := Lib.hid (show moreB sml s a = false by rw [moreB_at ha]; exact h1)
  have M1 := Lib.hid (show moreB bgI s a = false by rw [moreB_at ha]; exact h2)
  have M2 := Lib.hid (show moreB figI s a = false by rw [moreB_at ha]; exact h3)
  have hlt2 : decide ((a : Int) + 1 < (s.size : Int)) = true := decide_eq_true (by omega)
  have hlt3 : (a : Int) + 1 < (s.size : Int) := by omega
  have hwr : IntKind.i64.wrap ((a : Int) + 1) = (a : Int) + 1 := IntWalk.i64_in _ (by omega)
  have HF := Lib.hid (show figI ((s[a + 1]'hk2).toNat : Int) = true from h4)
  have HFC := Lib.hid (show ∀ w, Calls Tryz.prog 32 #[.int .u8 ((s[a + 1]'hk2).toNat : Int)] w fun e w' => e = .returned (.bool true) ∧ w' = w from fun w => (tfig_calls _ w).mono (by rintro e w' ⟨rfl, rfl⟩; exact ⟨by rw [HF.out], rfl⟩))
  have b39 := 0
  clear b39 hT hx hE h45 h1 h2 h3 h4
  go_enter Tryz.func17, Tryz.ntmps17
  go_wp2_with fail
  go_region_held3 (fun W => W.cell? ⟨X, 0, none⟩ = some (.string s) ∧ W.cell? ⟨X, 1, none⟩ = some (.int .i64 (a : Int)))
    ((go_split_ands; refine ⟨?_, ?_⟩; (focus (first | with_reducible assumption | (refine cell_below (w := w.alloc (.cells #[.int .i64 0, .string ⟨#[]⟩, .int .i64 0, .bool false, .int .i64 0] 35)) ?_ C0.out; (focus (repeat (first | with_reducible assumption | with_reducible exact Below.refl _ _ | with_reducible apply Below.drew)))))); (focus (first | with_reducible assumption | (refine cell_below (w := w.alloc (.cells #[.int .i64 0, .string ⟨#[]⟩, .int .i64 0, .bool false, .int .i64 0] 35)) ?_ C1.out; (focus (repeat (first | with_reducible assumption | with_reducible exact Below.refl _ _ | with_reducible apply Below.drew))))))))
    (first
      | (go_at_call 31; (with_reducible refine (HPC.out _).mono ?_); rintro e w' ⟨rfl, hw⟩; rw [hw]; clear hw)
      | (go_at_call 32; (with_reducible refine (HFC.out _).mono ?_); rintro e w' ⟨rfl, hw⟩; rw [hw]; clear hw))
  generalize hW1 : World.drew _ = W1
  have HX1 := Lib.hid (show IsText X s a W1 by rw [← hW1]; exact HX.out)
  have HK1 := Lib.hid (show IsTok w.heap.size (.int .i64 0) (.string ⟨#[]⟩) (.int .i64 0) (.bool false) (.int .i64 0) W1 by rw [← hW1]; exact HK.out)
  have HE1 := Lib.hid (show ErrW W1 by rw [← hW1]; exact HE.out)
  have HG1 := Lib.hid (show w.grownBy W1 (some X) by rw [← hW1]; exact grown_trans (World.grownBy_alloc w (.cells #[.int .i64 0, .string ⟨#[]⟩, .int .i64 0, .bool false, .int .i64 0] 35) _) (grown_below (Below.refl _ _).drew _))
  have c0 := HX1.out.cell0
  have c1 := HX1.out.cell1
  clear hW1 x0 x1
  go_wp2_with (first
    | (go_at_call 26; (with_reducible refine (more_calls en_small tsmall_calls X s a _ ?_).mono ?_); (focus (exact HX1.out)); rintro e w' ⟨rfl, rfl⟩; rw [M0.out])
    | (go_at_call 26; (with_reducible refine (more_calls en_big tbig_calls X s a _ ?_).mono ?_); (focus (exact HX1.out)); rintro e w' ⟨rfl, rfl⟩; rw [M1.out])
    | (go_at_call 26; (with_reducible refine (more_calls en_fig tfig_calls X s a _ ?_).mono ?_); (focus (exact HX1.out)); rintro e w' ⟨rfl, rfl⟩; rw [M2.out])
    | (go_at_call 37; (with_reducible refine (number_calls X s a _ ?_ ha hs ?_).mono ?_); (focus (exact HX1.out)); (focus (exact HE1.out)); rintro e w2 ho; obtain ⟨k, t, n, q, er, rfl, hg2, hv⟩ := ho.cells; have hk2 := HK1.out.grown (row := some X) (grown_trans (grown_drew (grown_drew (grown_drew (World.grownBy.refl _ (some X))))) hg2) (by have := HLT.out; simp; omega); have k0 := hk2.c0; have k1 := hk2.c1; have k2 := hk2.c2; have k3 := hk2.c3; have k4 := hk2.c4; have l0 := hk2.fr 0; have l1 := hk2.fr 1; have l2 := hk2.fr 2; have l3 := hk2.fr 3; have l4 := hk2.fr 4; have HK2 := Lib.hid hk2; have HG2 := Lib.hid hg2; have HV := Lib.hid hv; clear hk2 hg2 hv ho))
  have hset := HK2.out.set (.int .i64 k) (.string t) (.int .i64 n) (.bool q) (.int .i64 0)
  have r0 := hset.c0; have r1 := hset.c1; have r2 := hset.c2; have r3 := hset.c3; have r4 := hset.c4
  refine bodyPost_ret (v := .tuple #[.agg #[.int .i64 k, .string t, .int .i64 n, .bool q, .int .i64 0], .int .i64 er]) (by simp [results, Tryz.results17, go_sem, r0, r1, r2, r3, r4]) rfl ?_
  exact HV.out.back (fun b hb => hb.tokSet (by have := HLT.out; omega) _ _ _ _ _) (grown_tokSet (grown_trans HG1.out (grown_trans (grown_drew (grown_drew (grown_drew (World.grownBy.refl _ (some X))))) HG2.out)) (Nat.le_refl _) _ _ _ _ _)

set_option maxRecDepth 100000 in
set_option maxHeartbeats 4000000 in
theorem one_quot (X : Nat) (s : ByteArray) (a : Nat) (w : World) (hT : IsText X s a w) (ha : a < s.size) (hs : s.size ≤ 65536) (hE : ErrW w) (h45 : (s[a] == 45) = false) (h1 : ofB sml s[a] = false) (h2 : ofB bgI s[a] = false) (h3 : ofB figI s[a] = false) (h39 : (((s[a]'ha).toNat : Int) == 39) = true) :
    Calls Tryz.prog 17 #[.pointer (some ⟨X, 0, none⟩)] w (OneIs X s (qres (quotL (s.data.toList.drop (a + 1)))) w) := by
  have hx := hT.grown (World.grownBy_alloc w (.cells #[.int .i64 0, .string ⟨#[]⟩, .int .i64 0, .bool false, .int .i64 0] 35) none) (by simp)
  have x0 := hx.cell0
  have x1 := hx.cell1
  have HX := Lib.hid hx
  have C0 := Lib.hid x0
  have C1 := Lib.hid x1
  have HLT := Lib.hid hT.lt
  have HK := Lib.hid (IsTok.new (v0 := .int .i64 0) (v1 := .string ⟨#[]⟩) (v2 := .int .i64 0) (v3 := .bool false) (v4 := .int .i64 0) w)
  have HE := Lib.hid (hE.below ((Below.refl w.heap.size w).alloc (Nat.le_refl _) (.cells #[.int .i64 0, .string ⟨#[]⟩, .int .i64 0, .bool false, .int .i64 0] 35)))
  have HP := Lib.hid (show Lib.hasPrefix (s.extract a s.size).data.toList [45] = false by
    rw [show (s.extract a s.size).data.toList = s.data.toList.drop a by
      simp only [ByteArray.data_extract, Array.toList_extract, List.extract]
      rw [List.take_of_length_le (by simp)], drop_at ha, prefix45, h45])
  have HA := Lib.hid (show a ≤ s.size by omega)
  have HPC := Lib.hid (show ∀ w, Calls Tryz.prog 31 #[.string (s.extract a s.size), .string ⟨#[45]⟩] w fun e w' => e = .returned (.bool false) ∧ w' = w from fun w => by rw [← HP.out]; exact Tryz.strings_HasPrefix _ _ _)
  have ha2 : a ≤ s.size := HA.out
  have M0 := Lib.hid (show moreB sml s a = false by rw [moreB_at ha]; exact h1)
  have M1 := Lib.hid (show moreB bgI s a = false by rw [moreB_at ha]; exact h2)
  have M2 := Lib.hid (show moreB figI s a = false by rw [moreB_at ha]; exact h3)
  have b39 := 0
  clear b39 hT hx hE h45 h1 h2 h3
  go_enter Tryz.func17, Tryz.ntmps17
  go_wp2_with fail
  go_quiet (first | (go_at_call 31; refine Calls.quiet_of_same (HPC.out _)))
  generalize hW1 : World.drewN _ _ = W1
  have HX1 := Lib.hid (show IsText X s a W1 by rw [← hW1]; exact HX.out)
  have HK1 := Lib.hid (show IsTok w.heap.size (.int .i64 0) (.string ⟨#[]⟩) (.int .i64 0) (.bool false) (.int .i64 0) W1 by rw [← hW1]; exact HK.out)
  have HE1 := Lib.hid (show ErrW W1 by rw [← hW1]; exact HE.out)
  have HG1 := Lib.hid (show w.grownBy W1 (some X) by rw [← hW1]; exact grown_trans (World.grownBy_alloc w (.cells #[.int .i64 0, .string ⟨#[]⟩, .int .i64 0, .bool false, .int .i64 0] 35) _) (grown_below (below_drewN' (Below.refl _ _) _) _))
  have c0 := HX1.out.cell0
  have c1 := HX1.out.cell1
  clear hW1 x0 x1
  go_wp2_with (first
    | (go_at_call 26; (with_reducible refine (more_calls en_small tsmall_calls X s a _ ?_).mono ?_); (focus (exact HX1.out)); rintro e w' ⟨rfl, rfl⟩; rw [M0.out])
    | (go_at_call 26; (with_reducible refine (more_calls en_big tbig_calls X s a _ ?_).mono ?_); (focus (exact HX1.out)); rintro e w' ⟨rfl, rfl⟩; rw [M1.out])
    | (go_at_call 26; (with_reducible refine (more_calls en_fig tfig_calls X s a _ ?_).mono ?_); (focus (exact HX1.out)); rintro e w' ⟨rfl, rfl⟩; rw [M2.out]))
  go_region
  go_wp2_with (first
    | (go_at_call 38; (with_reducible refine (quoted_calls X s a _ ?_ ha hs).mono ?_); (focus (exact HX1.out)); rintro e w2 ho; obtain ⟨k, t, n, q, er, rfl, hg2, hv⟩ := ho.cells; have hk2 := HK1.out.grown (row := some X) (grown_trans (grown_drew (grown_drew (grown_drew (grown_drew (World.grownBy.refl _ (some X)))))) hg2) (by have := HLT.out; simp; omega); have k0 := hk2.c0; have k1 := hk2.c1; have k2 := hk2.c2; have k3 := hk2.c3; have k4 := hk2.c4; have l0 := hk2.fr 0; have l1 := hk2.fr 1; have l2 := hk2.fr 2; have l3 := hk2.fr 3; have l4 := hk2.fr 4; have HK2 := Lib.hid hk2; have HG2 := Lib.hid hg2; have HV := Lib.hid hv; clear hk2 hg2 hv ho))
  have hset := HK2.out.set (.int .i64 k) (.string t) (.int .i64 n) (.bool q) (.int .i64 0)
  have r0 := hset.c0; have r1 := hset.c1; have r2 := hset.c2; have r3 := hset.c3; have r4 := hset.c4
  refine bodyPost_ret (v := .tuple #[.agg #[.int .i64 k, .string t, .int .i64 n, .bool q, .int .i64 0], .int .i64 er]) (by simp [results, Tryz.results17, go_sem, r0, r1, r2, r3, r4]) rfl ?_
  exact HV.out.back (fun b hb => hb.tokSet (by have := HLT.out; omega) _ _ _ _ _) (grown_tokSet (grown_trans HG1.out (grown_trans (grown_drew (grown_drew (grown_drew (grown_drew (World.grownBy.refl _ (some X)))))) HG2.out)) (Nat.le_refl _) _ _ _ _ _)

set_option maxRecDepth 100000 in
set_option maxHeartbeats 4000000 in
theorem one_mark (X : Nat) (s : ByteArray) (a : Nat) (w : World) (hT : IsText X s a w) (ha : a < s.size) (hs : s.size ≤ 65536) (hE : ErrW w) (h45 : (s[a] == 45) = false) (h1 : ofB sml s[a] = false) (h2 : ofB bgI s[a] = false) (h3 : ofB figI s[a] = false) (h39 : (((s[a]'ha).toNat : Int) == 39) = false) :
    Calls Tryz.prog 17 #[.pointer (some ⟨X, 0, none⟩)] w (OneIs X s (markL (s.data.toList.drop a)) w) := by
  have hx := hT.grown (World.grownBy_alloc w (.cells #[.int .i64 0, .string ⟨#[]⟩, .int .i64 0, .bool false, .int .i64 0] 35) none) (by simp)
  have x0 := hx.cell0
  have x1 := hx.cell1
  have HX := Lib.hid hx
  have C0 := Lib.hid x0
  have C1 := Lib.hid x1
  have HLT := Lib.hid hT.lt
  have HK := Lib.hid (IsTok.new (v0 := .int .i64 0) (v1 := .string ⟨#[]⟩) (v2 := .int .i64 0) (v3 := .bool false) (v4 := .int .i64 0) w)
  have HE := Lib.hid (hE.below ((Below.refl w.heap.size w).alloc (Nat.le_refl _) (.cells #[.int .i64 0, .string ⟨#[]⟩, .int .i64 0, .bool false, .int .i64 0] 35)))
  have HP := Lib.hid (show Lib.hasPrefix (s.extract a s.size).data.toList [45] = false by
    rw [show (s.extract a s.size).data.toList = s.data.toList.drop a by
      simp only [ByteArray.data_extract, Array.toList_extract, List.extract]
      rw [List.take_of_length_le (by simp)], drop_at ha, prefix45, h45])
  have HA := Lib.hid (show a ≤ s.size by omega)
  have HPC := Lib.hid (show ∀ w, Calls Tryz.prog 31 #[.string (s.extract a s.size), .string ⟨#[45]⟩] w fun e w' => e = .returned (.bool false) ∧ w' = w from fun w => by rw [← HP.out]; exact Tryz.strings_HasPrefix _ _ _)
  have ha2 : a ≤ s.size := HA.out
  have M0 := Lib.hid (show moreB sml s a = false by rw [moreB_at ha]; exact h1)
  have M1 := Lib.hid (show moreB bgI s a = false by rw [moreB_at ha]; exact h2)
  have M2 := Lib.hid (show moreB figI s a = false by rw [moreB_at ha]; exact h3)
  have b39 := 0
  clear b39 hT hx hE h45 h1 h2 h3
  go_enter Tryz.func17, Tryz.ntmps17
  go_wp2_with fail
  go_quiet (first | (go_at_call 31; refine Calls.quiet_of_same (HPC.out _)))
  generalize hW1 : World.drewN _ _ = W1
  have HX1 := Lib.hid (show IsText X s a W1 by rw [← hW1]; exact HX.out)
  have HK1 := Lib.hid (show IsTok w.heap.size (.int .i64 0) (.string ⟨#[]⟩) (.int .i64 0) (.bool false) (.int .i64 0) W1 by rw [← hW1]; exact HK.out)
  have HE1 := Lib.hid (show ErrW W1 by rw [← hW1]; exact HE.out)
  have HG1 := Lib.hid (show w.grownBy W1 (some X) by rw [← hW1]; exact grown_trans (World.grownBy_alloc w (.cells #[.int .i64 0, .string ⟨#[]⟩, .int .i64 0, .bool false, .int .i64 0] 35) _) (grown_below (below_drewN' (Below.refl _ _) _) _))
  have c0 := HX1.out.cell0
  have c1 := HX1.out.cell1
  clear hW1 x0 x1
  go_wp2_with (first
    | (go_at_call 26; (with_reducible refine (more_calls en_small tsmall_calls X s a _ ?_).mono ?_); (focus (exact HX1.out)); rintro e w' ⟨rfl, rfl⟩; rw [M0.out])
    | (go_at_call 26; (with_reducible refine (more_calls en_big tbig_calls X s a _ ?_).mono ?_); (focus (exact HX1.out)); rintro e w' ⟨rfl, rfl⟩; rw [M1.out])
    | (go_at_call 26; (with_reducible refine (more_calls en_fig tfig_calls X s a _ ?_).mono ?_); (focus (exact HX1.out)); rintro e w' ⟨rfl, rfl⟩; rw [M2.out]))
  go_region
  go_wp2_with (first
    | (go_at_call 33; (with_reducible refine (mark_calls X s a _ ?_ ha hs).mono ?_); (focus (exact HX1.out)); rintro e w2 ho; obtain ⟨k, t, n, q, er, rfl, hg2, hv⟩ := ho.cells; have hk2 := HK1.out.grown (row := some X) (grown_trans (grown_drew (grown_drew (grown_drew (grown_drew (World.grownBy.refl _ (some X)))))) hg2) (by have := HLT.out; simp; omega); have k0 := hk2.c0; have k1 := hk2.c1; have k2 := hk2.c2; have k3 := hk2.c3; have k4 := hk2.c4; have l0 := hk2.fr 0; have l1 := hk2.fr 1; have l2 := hk2.fr 2; have l3 := hk2.fr 3; have l4 := hk2.fr 4; have HK2 := Lib.hid hk2; have HG2 := Lib.hid hg2; have HV := Lib.hid hv; clear hk2 hg2 hv ho))
  have hset := HK2.out.set (.int .i64 k) (.string t) (.int .i64 n) (.bool q) (.int .i64 0)
  have r0 := hset.c0; have r1 := hset.c1; have r2 := hset.c2; have r3 := hset.c3; have r4 := hset.c4
  refine bodyPost_ret (v := .tuple #[.agg #[.int .i64 k, .string t, .int .i64 n, .bool q, .int .i64 0], .int .i64 er]) (by simp [results, Tryz.results17, go_sem, r0, r1, r2, r3, r4]) rfl ?_
  exact HV.out.back (fun b hb => hb.tokSet (by have := HLT.out; omega) _ _ _ _ _) (grown_tokSet (grown_trans HG1.out (grown_trans (grown_drew (grown_drew (grown_drew (grown_drew (World.grownBy.refl _ (some X)))))) HG2.out)) (Nat.le_refl _) _ _ _ _ _)

set_option maxRecDepth 100000 in
set_option maxHeartbeats 4000000 in
theorem one_dash (X : Nat) (s : ByteArray) (a : Nat) (w : World) (hT : IsText X s a w) (ha : a < s.size) (hs : s.size ≤ 65536) (hE : ErrW w) (h45 : (s[a] == 45) = true) (hk2 : a + 1 < s.size) (h4 : ofB figI s[a + 1] = false) (h1 : ofB sml s[a] = false) (h2 : ofB bgI s[a] = false) (h3 : ofB figI s[a] = false) (h39 : (((s[a]'ha).toNat : Int) == 39) = false) :
    Calls Tryz.prog 17 #[.pointer (some ⟨X, 0, none⟩)] w (OneIs X s (markL (s.data.toList.drop a)) w) := by
  have hx := hT.grown (World.grownBy_alloc w (.cells #[.int .i64 0, .string ⟨#[]⟩, .int .i64 0, .bool false, .int .i64 0] 35) none) (by simp)
  have x0 := hx.cell0
  have x1 := hx.cell1
  have HX := Lib.hid hx
  have C0 := Lib.hid x0
  have C1 := Lib.hid x1
  have HLT := Lib.hid hT.lt
  have HK := Lib.hid (IsTok.new (v0 := .int .i64 0) (v1 := .string ⟨#[]⟩) (v2 := .int .i64 0) (v3 := .bool false) (v4 := .int .i64 0) w)
  have HE := Lib.hid (hE.below ((Below.refl w.heap.size w).alloc (Nat.le_refl _) (.cells #[.int .i64 0, .string ⟨#[]⟩, .int .i64 0, .bool false, .int .i64 0] 35)))
  have HP := Lib.hid (show Lib.hasPrefix (s.extract a s.size).data.toList [45] = true by
    rw [show (s.extract a s.size).data.toList = s.data.toList.drop a by
      simp only [ByteArray.data_extract, Array.toList_extract, List.extract]
      rw [List.take_of_length_le (by simp)], drop_at ha, prefix45, h45])
  have HA := Lib.hid (show a ≤ s.size by omega)
  have HPC := Lib.hid (show ∀ w, Calls Tryz.prog 31 #[.string (s.extract a s.size), .string ⟨#[45]⟩] w fun e w' => e = .returned (.bool true) ∧ w' = w from fun w => by rw [← HP.out]; exact Tryz.strings_HasPrefix _ _ _)
  have ha2 : a ≤ s.size := HA.out
  have M0 := Lib.hid (show moreB sml s a = false by rw [moreB_at ha]; exact h1)
  have M1 := Lib.hid (show moreB bgI s a = false by rw [moreB_at ha]; exact h2)
  have M2 := Lib.hid (show moreB figI s a = false by rw [moreB_at ha]; exact h3)
  have hlt2 : decide ((a : Int) + 1 < (s.size : Int)) = true := decide_eq_true (by omega)
  have hlt3 : (a : Int) + 1 < (s.size : Int) := by omega
  have hwr : IntKind.i64.wrap ((a : Int) + 1) = (a : Int) + 1 := IntWalk.i64_in _ (by omega)
  have HF := Lib.hid (show figI ((s[a + 1]'hk2).toNat : Int) = false from h4)
  have HFC := Lib.hid (show ∀ w, Calls Tryz.prog 32 #[.int .u8 ((s[a + 1]'hk2).toNat : Int)] w fun e w' => e = .returned (.bool false) ∧ w' = w from fun w => (tfig_calls _ w).mono (by rintro e w' ⟨rfl, rfl⟩; exact ⟨by rw [HF.out], rfl⟩))
  have b39 := 0
  clear b39 hT hx hE h45 h1 h2 h3 h4
  go_enter Tryz.func17, Tryz.ntmps17
  go_wp2_with fail
  go_region_held3 (fun W => W.cell? ⟨X, 0, none⟩ = some (.string s) ∧ W.cell? ⟨X, 1, none⟩ = some (.int .i64 (a : Int)))
    ((go_split_ands; refine ⟨?_, ?_⟩; (focus (first | with_reducible assumption | (refine cell_below (w := w.alloc (.cells #[.int .i64 0, .string ⟨#[]⟩, .int .i64 0, .bool false, .int .i64 0] 35)) ?_ C0.out; (focus (repeat (first | with_reducible assumption | with_reducible exact Below.refl _ _ | with_reducible apply Below.drew)))))); (focus (first | with_reducible assumption | (refine cell_below (w := w.alloc (.cells #[.int .i64 0, .string ⟨#[]⟩, .int .i64 0, .bool false, .int .i64 0] 35)) ?_ C1.out; (focus (repeat (first | with_reducible assumption | with_reducible exact Below.refl _ _ | with_reducible apply Below.drew))))))))
    (first
      | (go_at_call 31; (with_reducible refine (HPC.out _).mono ?_); rintro e w' ⟨rfl, hw⟩; rw [hw]; clear hw)
      | (go_at_call 32; (with_reducible refine (HFC.out _).mono ?_); rintro e w' ⟨rfl, hw⟩; rw [hw]; clear hw))
  generalize hW1 : World.drew _ = W1
  have HX1 := Lib.hid (show IsText X s a W1 by rw [← hW1]; exact HX.out)
  have HK1 := Lib.hid (show IsTok w.heap.size (.int .i64 0) (.string ⟨#[]⟩) (.int .i64 0) (.bool false) (.int .i64 0) W1 by rw [← hW1]; exact HK.out)
  have HE1 := Lib.hid (show ErrW W1 by rw [← hW1]; exact HE.out)
  have HG1 := Lib.hid (show w.grownBy W1 (some X) by rw [← hW1]; exact grown_trans (World.grownBy_alloc w (.cells #[.int .i64 0, .string ⟨#[]⟩, .int .i64 0, .bool false, .int .i64 0] 35) _) (grown_below (Below.refl _ _).drew _))
  have c0 := HX1.out.cell0
  have c1 := HX1.out.cell1
  clear hW1 x0 x1
  go_wp2_with (first
    | (go_at_call 26; (with_reducible refine (more_calls en_small tsmall_calls X s a _ ?_).mono ?_); (focus (exact HX1.out)); rintro e w' ⟨rfl, rfl⟩; rw [M0.out])
    | (go_at_call 26; (with_reducible refine (more_calls en_big tbig_calls X s a _ ?_).mono ?_); (focus (exact HX1.out)); rintro e w' ⟨rfl, rfl⟩; rw [M1.out])
    | (go_at_call 26; (with_reducible refine (more_calls en_fig tfig_calls X s a _ ?_).mono ?_); (focus (exact HX1.out)); rintro e w' ⟨rfl, rfl⟩; rw [M2.out]))
  go_region
  go_wp2_with (first
    | (go_at_call 33; (with_reducible refine (mark_calls X s a _ ?_ ha hs).mono ?_); (focus (exact HX1.out)); rintro e w2 ho; obtain ⟨k, t, n, q, er, rfl, hg2, hv⟩ := ho.cells; have hk2 := HK1.out.grown (row := some X) (grown_trans (grown_drew (grown_drew (grown_drew (grown_drew (World.grownBy.refl _ (some X)))))) hg2) (by have := HLT.out; simp; omega); have k0 := hk2.c0; have k1 := hk2.c1; have k2 := hk2.c2; have k3 := hk2.c3; have k4 := hk2.c4; have l0 := hk2.fr 0; have l1 := hk2.fr 1; have l2 := hk2.fr 2; have l3 := hk2.fr 3; have l4 := hk2.fr 4; have HK2 := Lib.hid hk2; have HG2 := Lib.hid hg2; have HV := Lib.hid hv; clear hk2 hg2 hv ho))
  have hset := HK2.out.set (.int .i64 k) (.string t) (.int .i64 n) (.bool q) (.int .i64 0)
  have r0 := hset.c0; have r1 := hset.c1; have r2 := hset.c2; have r3 := hset.c3; have r4 := hset.c4
  refine bodyPost_ret (v := .tuple #[.agg #[.int .i64 k, .string t, .int .i64 n, .bool q, .int .i64 0], .int .i64 er]) (by simp [results, Tryz.results17, go_sem, r0, r1, r2, r3, r4]) rfl ?_
  exact HV.out.back (fun b hb => hb.tokSet (by have := HLT.out; omega) _ _ _ _ _) (grown_tokSet (grown_trans HG1.out (grown_trans (grown_drew (grown_drew (grown_drew (grown_drew (World.grownBy.refl _ (some X)))))) HG2.out)) (Nat.le_refl _) _ _ _ _ _)

set_option maxRecDepth 100000 in
set_option maxHeartbeats 4000000 in
theorem one_last (X : Nat) (s : ByteArray) (a : Nat) (w : World) (hT : IsText X s a w) (ha : a < s.size) (hs : s.size ≤ 65536) (hE : ErrW w) (h45 : (s[a] == 45) = true) (hk2 : ¬ a + 1 < s.size) (h1 : ofB sml s[a] = false) (h2 : ofB bgI s[a] = false) (h3 : ofB figI s[a] = false) (h39 : (((s[a]'ha).toNat : Int) == 39) = false) :
    Calls Tryz.prog 17 #[.pointer (some ⟨X, 0, none⟩)] w (OneIs X s (markL (s.data.toList.drop a)) w) := by
  have hx := hT.grown (World.grownBy_alloc w (.cells #[.int .i64 0, .string ⟨#[]⟩, .int .i64 0, .bool false, .int .i64 0] 35) none) (by simp)
  have x0 := hx.cell0
  have x1 := hx.cell1
  have HX := Lib.hid hx
  have C0 := Lib.hid x0
  have C1 := Lib.hid x1
  have HLT := Lib.hid hT.lt
  have HK := Lib.hid (IsTok.new (v0 := .int .i64 0) (v1 := .string ⟨#[]⟩) (v2 := .int .i64 0) (v3 := .bool false) (v4 := .int .i64 0) w)
  have HE := Lib.hid (hE.below ((Below.refl w.heap.size w).alloc (Nat.le_refl _) (.cells #[.int .i64 0, .string ⟨#[]⟩, .int .i64 0, .bool false, .int .i64 0] 35)))
  have HP := Lib.hid (show Lib.hasPrefix (s.extract a s.size).data.toList [45] = true by
    rw [show (s.extract a s.size).data.toList = s.data.toList.drop a by
      simp only [ByteArray.data_extract, Array.toList_extract, List.extract]
      rw [List.take_of_length_le (by simp)], drop_at ha, prefix45, h45])
  have HA := Lib.hid (show a ≤ s.size by omega)
  have HPC := Lib.hid (show ∀ w, Calls Tryz.prog 31 #[.string (s.extract a s.size), .string ⟨#[45]⟩] w fun e w' => e = .returned (.bool true) ∧ w' = w from fun w => by rw [← HP.out]; exact Tryz.strings_HasPrefix _ _ _)
  have ha2 : a ≤ s.size := HA.out
  have M0 := Lib.hid (show moreB sml s a = false by rw [moreB_at ha]; exact h1)
  have M1 := Lib.hid (show moreB bgI s a = false by rw [moreB_at ha]; exact h2)
  have M2 := Lib.hid (show moreB figI s a = false by rw [moreB_at ha]; exact h3)
  have hlt2 : decide ((a : Int) + 1 < (s.size : Int)) = false := decide_eq_false (by omega)
  have b39 := 0
  clear b39 hT hx hE h45 h1 h2 h3
  go_enter Tryz.func17, Tryz.ntmps17
  go_wp2_with fail
  go_quiet (first | (go_at_call 31; refine Calls.quiet_of_same (HPC.out _)))
  generalize hW1 : World.drewN _ _ = W1
  have HX1 := Lib.hid (show IsText X s a W1 by rw [← hW1]; exact HX.out)
  have HK1 := Lib.hid (show IsTok w.heap.size (.int .i64 0) (.string ⟨#[]⟩) (.int .i64 0) (.bool false) (.int .i64 0) W1 by rw [← hW1]; exact HK.out)
  have HE1 := Lib.hid (show ErrW W1 by rw [← hW1]; exact HE.out)
  have HG1 := Lib.hid (show w.grownBy W1 (some X) by rw [← hW1]; exact grown_trans (World.grownBy_alloc w (.cells #[.int .i64 0, .string ⟨#[]⟩, .int .i64 0, .bool false, .int .i64 0] 35) _) (grown_below (below_drewN' (Below.refl _ _) _) _))
  have c0 := HX1.out.cell0
  have c1 := HX1.out.cell1
  clear hW1 x0 x1
  go_wp2_with (first
    | (go_at_call 26; (with_reducible refine (more_calls en_small tsmall_calls X s a _ ?_).mono ?_); (focus (exact HX1.out)); rintro e w' ⟨rfl, rfl⟩; rw [M0.out])
    | (go_at_call 26; (with_reducible refine (more_calls en_big tbig_calls X s a _ ?_).mono ?_); (focus (exact HX1.out)); rintro e w' ⟨rfl, rfl⟩; rw [M1.out])
    | (go_at_call 26; (with_reducible refine (more_calls en_fig tfig_calls X s a _ ?_).mono ?_); (focus (exact HX1.out)); rintro e w' ⟨rfl, rfl⟩; rw [M2.out]))
  go_region
  go_wp2_with (first
    | (go_at_call 33; (with_reducible refine (mark_calls X s a _ ?_ ha hs).mono ?_); (focus (exact HX1.out)); rintro e w2 ho; obtain ⟨k, t, n, q, er, rfl, hg2, hv⟩ := ho.cells; have hk2 := HK1.out.grown (row := some X) (grown_trans (grown_drew (grown_drew (grown_drew (grown_drew (World.grownBy.refl _ (some X)))))) hg2) (by have := HLT.out; simp; omega); have k0 := hk2.c0; have k1 := hk2.c1; have k2 := hk2.c2; have k3 := hk2.c3; have k4 := hk2.c4; have l0 := hk2.fr 0; have l1 := hk2.fr 1; have l2 := hk2.fr 2; have l3 := hk2.fr 3; have l4 := hk2.fr 4; have HK2 := Lib.hid hk2; have HG2 := Lib.hid hg2; have HV := Lib.hid hv; clear hk2 hg2 hv ho))
  have hset := HK2.out.set (.int .i64 k) (.string t) (.int .i64 n) (.bool q) (.int .i64 0)
  have r0 := hset.c0; have r1 := hset.c1; have r2 := hset.c2; have r3 := hset.c3; have r4 := hset.c4
  refine bodyPost_ret (v := .tuple #[.agg #[.int .i64 k, .string t, .int .i64 n, .bool q, .int .i64 0], .int .i64 er]) (by simp [results, Tryz.results17, go_sem, r0, r1, r2, r3, r4]) rfl ?_
  exact HV.out.back (fun b hb => hb.tokSet (by have := HLT.out; omega) _ _ _ _ _) (grown_tokSet (grown_trans HG1.out (grown_trans (grown_drew (grown_drew (grown_drew (grown_drew (World.grownBy.refl _ (some X)))))) HG2.out)) (Nat.le_refl _) _ _ _ _ _)

theorem one_calls (X : Nat) (s : ByteArray) (a : Nat) (w : World) (hT : IsText X s a w) (ha : a < s.size) (hs : s.size ≤ 65536) (hE : ErrW w) :
    Calls Tryz.prog 17 #[.pointer (some ⟨X, 0, none⟩)] w (OneIs X s (oneL s[a] (s.data.toList.drop (a + 1))) w) := by
  unfold oneL
  rw [← drop_at ha]
  have hdash : (s[a] == 45) = true → ofB sml s[a] = false ∧ ofB bgI s[a] = false ∧ ofB figI s[a] = false ∧ (((s[a]'ha).toNat : Int) == 39) = false ∧ (s[a] == 39) = false := by
    intro h
    have h2 : s[a] = 45 := by simpa using h
    rw [h2]
    decide
  cases h45 : (s[a] == 45) with
  | true =>
    obtain ⟨h1, h2, h3, h39, h39'⟩ := hdash h45
    rw [h1, h2, h3, h39']
    by_cases hk2 : a + 1 < s.size
    · have hd : s.data.toList.drop (a + 1) = s[a + 1] :: s.data.toList.drop (a + 1 + 1) := drop_at hk2
      cases h4 : ofB figI s[a + 1] with
      | true =>
        have e : (true && !(s.data.toList.drop (a + 1)).isEmpty && ofB figI ((s.data.toList.drop (a + 1)).headD 0)) = true := by rw [hd]; simpa using h4
        rw [e]
        exact one_neg X s a w hT ha hs hE h45 hk2 h4 h1 h2 h3
      | false =>
        have e : (true && !(s.data.toList.drop (a + 1)).isEmpty && ofB figI ((s.data.toList.drop (a + 1)).headD 0)) = false := by rw [hd]; simpa using h4
        rw [e]
        exact one_dash X s a w hT ha hs hE h45 hk2 h4 h1 h2 h3 h39
    · have hd : s.data.toList.drop (a + 1) = [] := drop_end (by omega)
      have e : (true && !(s.data.toList.drop (a + 1)).isEmpty && ofB figI ((s.data.toList.drop (a + 1)).headD 0)) = false := by rw [hd]; rfl
      rw [e]
      exact one_last X s a w hT ha hs hE h45 hk2 h1 h2 h3 h39
  | false =>
    rw [Bool.false_and, Bool.false_and, Bool.or_false]
    cases h1 : ofB sml s[a] with
    | true => exact one_small X s a w hT ha hs hE h45 h1
    | false =>
      cases h2 : ofB bgI s[a] with
      | true => exact one_big X s a w hT ha hs hE h45 h1 h2
      | false =>
        cases h3 : ofB figI s[a] with
        | true => exact one_fig X s a w hT ha hs hE h45 h1 h2 h3
        | false =>
          cases h39 : (((s[a]'ha).toNat : Int) == 39) with
          | true =>
            have h39' : (s[a] == 39) = true := by rw [byteN (d := 39) h39 (by decide)]; rfl
            rw [h39']
            exact one_quot X s a w hT ha hs hE h45 h1 h2 h3 h39
          | false =>
            have h39' : (s[a] == 39) = false := byteNot (d := 39) h39 (by decide)
            rw [h39']
            exact one_mark X s a w hT ha hs hE h45 h1 h2 h3 h39
end Go.Proofs.YtdfjhhhbkgelaaaGreatDoor.V
