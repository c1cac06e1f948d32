/- (*text).one: the token at a place. token.Scan: a text's tokens. Rows of things in memory: their cells; a list of bytes as a string. The parser's state; (*stream).peek, take, is, operates; (*parser).fail, ok, mark. (*parser).name, term, arity, mark; (*stream).operates: with the parser's two states. -/
import Derived.BigQuiet
import Derived.Deep.QuietTactic
import Derived.Test.YtminbdcabacfbaaGreatDoorKB3
namespace Go.Proofs.YtminbdcabacfbaaGreatDoor.V
set_option linter.unusedVariables false
set_option linter.unusedSimpArgs false
open Go.RowKit

/-- What a scanner hands back, cell by cell. -/
def OneV (X : Nat) (s : ByteArray) (g : Got) (W : World) (k : Int) (t : ByteArray) (n : Int) (q : Bool) (er : Int) : Prop := match g with
  | .bad m => k = 0 ∧ t = ⟨#[]⟩ ∧ n = 0 ∧ q = false ∧ er = (m : Int) ∧ ∃ b, IsText X s b W
  | .tok u r => k = (u.k : Int) ∧ t = ⟨u.s.toArray⟩ ∧ n = u.n ∧ q = u.q ∧ er = 0 ∧ ∃ b, b ≤ s.size ∧ s.data.toList.drop b = r ∧ IsText X s b W
theorem OneIs.cells {X : Nat} {s : ByteArray} {g : Got} {w w' : World} {e : Ending} (h : OneIs X s g w e w') : ∃ k t n q er, e = .returned (.tuple #[.agg #[.int .i64 k, .string t, .int .i64 n, .bool q, .int .i64 0], .int .i64 er]) ∧ w.grownBy w' (some X) ∧ OneV X s g w' k t n q er := by
  obtain ⟨hg, h⟩ := h
  cases g with
  | bad m =>
    obtain ⟨he, hb⟩ := h
    exact ⟨_, _, _, _, _, he, hg, rfl, rfl, rfl, rfl, rfl, hb⟩
  | tok u r =>
    obtain ⟨he, hb⟩ := h
    exact ⟨_, _, _, _, _, he, hg, rfl, rfl, rfl, rfl, rfl, hb⟩
theorem OneV.back {X : Nat} {s : ByteArray} {g : Got} {w w' W : World} {k n er : Int} {t : ByteArray} {q : Bool} (h : OneV X s g w' k t n q er) (hW : ∀ b, IsText X s b w' → IsText X s b W) (hg : w.grownBy W (some X)) :
    OneIs X s g w (.returned (.tuple #[.agg #[.int .i64 k, .string t, .int .i64 n, .bool q, .int .i64 0], .int .i64 er])) W := by
  refine ⟨hg, ?_⟩
  cases g with
  | bad m =>
    obtain ⟨rfl, rfl, rfl, rfl, rfl, b, hb⟩ := h
    exact ⟨rfl, b, hW b hb⟩
  | tok u r =>
    obtain ⟨rfl, rfl, rfl, rfl, rfl, b, hb, hd, hT⟩ := h
    exact ⟨rfl, b, hb, hd, hW b hT⟩
theorem named1_calls (X : Nat) (s : ByteArray) (a : Nat) (w : World) (hT : IsText X s a w) (ha : a ≤ s.size) (hs : s.size ≤ 65536) :
    Calls Tryz.prog 127 #[.pointer (some ⟨X, 0, none⟩), .int .i64 1] w (OneIs X s (namedL 1 (s.data.toList.drop a)) w) := named_calls 1 X s a w hT ha hs
theorem named2_calls (X : Nat) (s : ByteArray) (a : Nat) (w : World) (hT : IsText X s a w) (ha : a ≤ s.size) (hs : s.size ≤ 65536) :
    Calls Tryz.prog 127 #[.pointer (some ⟨X, 0, none⟩), .int .i64 2] w (OneIs X s (namedL 2 (s.data.toList.drop a)) w) := named_calls 2 X s a w hT ha hs
theorem prefix45 (c : UInt8) (t : List UInt8) : Lib.hasPrefix (c :: t) [45] = (c == 45) := by
  unfold Lib.hasPrefix
  simp only [List.isPrefixOf, Bool.and_true]
  cases h : (45 == c) <;> cases h2 : (c == 45) <;> simp_all
theorem moreB_at {P : Int → Bool} {s : ByteArray} {a : Nat} (h : a < s.size) : moreB P s a = ofB P s[a] := by unfold moreB; rw [dif_pos h]

set_option maxRecDepth 100000 in
set_option maxHeartbeats 4000000 in
theorem one_small (X : Nat) (s : ByteArray) (a : Nat) (w : World) (hT : IsText X s a w) (ha : a < s.size) (hs : s.size ≤ 65536) (hE : ErrW w) (h45 : (s[a] == 45) = false) (h1 : ofB sml s[a] = true) :
    Calls Tryz.prog 93 #[.pointer (some ⟨X, 0, none⟩)] w (OneIs X s (namedL 1 (s.data.toList.drop a)) w) := by
  have hx := hT.grown (World.grownBy_alloc w (.cells #[.int .i64 0, .string ⟨#[]⟩, .int .i64 0, .bool false, .int .i64 0] 71) none) (by simp)
  have x0 := hx.cell0
  have x1 := hx.cell1
  have HX := Lib.hid hx
  have C0 := Lib.hid x0
  have C1 := Lib.hid x1
  have HLT := Lib.hid hT.lt
  have HK := Lib.hid (IsTok.new (v0 := .int .i64 0) (v1 := .string ⟨#[]⟩) (v2 := .int .i64 0) (v3 := .bool false) (v4 := .int .i64 0) w)
  have HE := Lib.hid (hE.below ((Below.refl w.heap.size w).alloc (Nat.le_refl _) (.cells #[.int .i64 0, .string ⟨#[]⟩, .int .i64 0, .bool false, .int .i64 0] 71)))
  have HP := Lib.hid (show Lib.hasPrefix (s.extract a s.size).data.toList [45] = false by
    rw [show (s.extract a s.size).data.toList = s.data.toList.drop a by
      simp only [ByteArray.data_extract, Array.toList_extract, List.extract]
      rw [List.take_of_length_le (by simp)], drop_at ha, prefix45, h45])
  have HA := Lib.hid (show a ≤ s.size by omega)
  have HPC := Lib.hid (show ∀ w, Calls Tryz.prog 123 #[.string (s.extract a s.size), .string ⟨#[45]⟩] w fun e w' => e = .returned (.bool false) ∧ w' = w from fun w => by rw [← HP.out]; exact Tryz.strings_HasPrefix _ _ _)
  have ha2 : a ≤ s.size := HA.out
  have M0 := Lib.hid (show moreB sml s a = true by rw [moreB_at ha]; exact h1)
  have b39 := 0
  clear b39 hT hx hE h45 h1
  go_enter Tryz.func93, Tryz.ntmps93
  go_wp2_with fail
  go_quiet (first | (go_at_call 123; refine Calls.quiet_of_same (HPC.out _)))
  generalize hW1 : World.drewN _ _ = W1
  have HX1 := Lib.hid (show IsText X s a W1 by rw [← hW1]; exact HX.out)
  have HK1 := Lib.hid (show IsTok w.heap.size (.int .i64 0) (.string ⟨#[]⟩) (.int .i64 0) (.bool false) (.int .i64 0) W1 by rw [← hW1]; exact HK.out)
  have HE1 := Lib.hid (show ErrW W1 by rw [← hW1]; exact HE.out)
  have HG1 := Lib.hid (show w.grownBy W1 (some X) by rw [← hW1]; exact grown_trans (World.grownBy_alloc w (.cells #[.int .i64 0, .string ⟨#[]⟩, .int .i64 0, .bool false, .int .i64 0] 71) _) (grown_below (below_drewN' (Below.refl _ _) _) _))
  have c0 := HX1.out.cell0
  have c1 := HX1.out.cell1
  clear hW1 x0 x1
  go_wp2_with (first
    | (go_at_call 118; (with_reducible refine (more_calls en_small tsmall_calls X s a _ ?_).mono ?_); (focus (exact HX1.out)); rintro e w' ⟨rfl, rfl⟩; rw [M0.out])
    | (go_at_call 127; (with_reducible refine (named1_calls X s a _ ?_ HA.out hs).mono ?_); (focus (exact HX1.out)); rintro e w2 ho; obtain ⟨k, t, n, q, er, rfl, hg2, hv⟩ := ho.cells; have hk2 := HK1.out.grown (row := some X) (grown_trans (grown_drew (World.grownBy.refl _ (some X))) hg2) (by have := HLT.out; simp; omega); have k0 := hk2.c0; have k1 := hk2.c1; have k2 := hk2.c2; have k3 := hk2.c3; have k4 := hk2.c4; have l0 := hk2.fr 0; have l1 := hk2.fr 1; have l2 := hk2.fr 2; have l3 := hk2.fr 3; have l4 := hk2.fr 4; have HK2 := Lib.hid hk2; have HG2 := Lib.hid hg2; have HV := Lib.hid hv; clear hk2 hg2 hv ho))
  have hset := HK2.out.set (.int .i64 k) (.string t) (.int .i64 n) (.bool q) (.int .i64 0)
  have r0 := hset.c0; have r1 := hset.c1; have r2 := hset.c2; have r3 := hset.c3; have r4 := hset.c4
  refine bodyPost_ret (v := .tuple #[.agg #[.int .i64 k, .string t, .int .i64 n, .bool q, .int .i64 0], .int .i64 er]) (by simp [results, Tryz.results93, go_sem, r0, r1, r2, r3, r4]) rfl ?_
  exact HV.out.back (fun b hb => hb.tokSet (by have := HLT.out; omega) _ _ _ _ _) (grown_tokSet (grown_trans HG1.out (grown_trans (grown_drew (World.grownBy.refl _ (some X))) HG2.out)) (Nat.le_refl _) _ _ _ _ _)

set_option maxRecDepth 100000 in
set_option maxHeartbeats 4000000 in
theorem one_big (X : Nat) (s : ByteArray) (a : Nat) (w : World) (hT : IsText X s a w) (ha : a < s.size) (hs : s.size ≤ 65536) (hE : ErrW w) (h45 : (s[a] == 45) = false) (h1 : ofB sml s[a] = false) (h2 : ofB bgI s[a] = true) :
    Calls Tryz.prog 93 #[.pointer (some ⟨X, 0, none⟩)] w (OneIs X s (namedL 2 (s.data.toList.drop a)) w) := by
  have hx := hT.grown (World.grownBy_alloc w (.cells #[.int .i64 0, .string ⟨#[]⟩, .int .i64 0, .bool false, .int .i64 0] 71) none) (by simp)
  have x0 := hx.cell0
  have x1 := hx.cell1
  have HX := Lib.hid hx
  have C0 := Lib.hid x0
  have C1 := Lib.hid x1
  have HLT := Lib.hid hT.lt
  have HK := Lib.hid (IsTok.new (v0 := .int .i64 0) (v1 := .string ⟨#[]⟩) (v2 := .int .i64 0) (v3 := .bool false) (v4 := .int .i64 0) w)
  have HE := Lib.hid (hE.below ((Below.refl w.heap.size w).alloc (Nat.le_refl _) (.cells #[.int .i64 0, .string ⟨#[]⟩, .int .i64 0, .bool false, .int .i64 0] 71)))
  have HP := Lib.hid (show Lib.hasPrefix (s.extract a s.size).data.toList [45] = false by
    rw [show (s.extract a s.size).data.toList = s.data.toList.drop a by
      simp only [ByteArray.data_extract, Array.toList_extract, List.extract]
      rw [List.take_of_length_le (by simp)], drop_at ha, prefix45, h45])
  have HA := Lib.hid (show a ≤ s.size by omega)
  have HPC := Lib.hid (show ∀ w, Calls Tryz.prog 123 #[.string (s.extract a s.size), .string ⟨#[45]⟩] w fun e w' => e = .returned (.bool false) ∧ w' = w from fun w => by rw [← HP.out]; exact Tryz.strings_HasPrefix _ _ _)
  have ha2 : a ≤ s.size := HA.out
  have M0 := Lib.hid (show moreB sml s a = false by rw [moreB_at ha]; exact h1)
  have M1 := Lib.hid (show moreB bgI s a = true by rw [moreB_at ha]; exact h2)
  have b39 := 0
  clear b39 hT hx hE h45 h1 h2
  go_enter Tryz.func93, Tryz.ntmps93
  go_wp2_with fail
  go_quiet (first | (go_at_call 123; refine Calls.quiet_of_same (HPC.out _)))
  generalize hW1 : World.drewN _ _ = W1
  have HX1 := Lib.hid (show IsText X s a W1 by rw [← hW1]; exact HX.out)
  have HK1 := Lib.hid (show IsTok w.heap.size (.int .i64 0) (.string ⟨#[]⟩) (.int .i64 0) (.bool false) (.int .i64 0) W1 by rw [← hW1]; exact HK.out)
  have HE1 := Lib.hid (show ErrW W1 by rw [← hW1]; exact HE.out)
  have HG1 := Lib.hid (show w.grownBy W1 (some X) by rw [← hW1]; exact grown_trans (World.grownBy_alloc w (.cells #[.int .i64 0, .string ⟨#[]⟩, .int .i64 0, .bool false, .int .i64 0] 71) _) (grown_below (below_drewN' (Below.refl _ _) _) _))
  have c0 := HX1.out.cell0
  have c1 := HX1.out.cell1
  clear hW1 x0 x1
  go_wp2_with (first
    | (go_at_call 118; (with_reducible refine (more_calls en_small tsmall_calls X s a _ ?_).mono ?_); (focus (exact HX1.out)); rintro e w' ⟨rfl, rfl⟩; rw [M0.out])
    | (go_at_call 118; (with_reducible refine (more_calls en_big tbig_calls X s a _ ?_).mono ?_); (focus (exact HX1.out)); rintro e w' ⟨rfl, rfl⟩; rw [M1.out])
    | (go_at_call 127; (with_reducible refine (named2_calls X s a _ ?_ HA.out hs).mono ?_); (focus (exact HX1.out)); rintro e w2 ho; obtain ⟨k, t, n, q, er, rfl, hg2, hv⟩ := ho.cells; have hk2 := HK1.out.grown (row := some X) (grown_trans (grown_drew (grown_drew (World.grownBy.refl _ (some X)))) hg2) (by have := HLT.out; simp; omega); have k0 := hk2.c0; have k1 := hk2.c1; have k2 := hk2.c2; have k3 := hk2.c3; have k4 := hk2.c4; have l0 := hk2.fr 0; have l1 := hk2.fr 1; have l2 := hk2.fr 2; have l3 := hk2.fr 3; have l4 := hk2.fr 4; have HK2 := Lib.hid hk2; have HG2 := Lib.hid hg2; have HV := Lib.hid hv; clear hk2 hg2 hv ho))
  have hset := HK2.out.set (.int .i64 k) (.string t) (.int .i64 n) (.bool q) (.int .i64 0)
  have r0 := hset.c0; have r1 := hset.c1; have r2 := hset.c2; have r3 := hset.c3; have r4 := hset.c4
  refine bodyPost_ret (v := .tuple #[.agg #[.int .i64 k, .string t, .int .i64 n, .bool q, .int .i64 0], .int .i64 er]) (by simp [results, Tryz.results93, go_sem, r0, r1, r2, r3, r4]) rfl ?_
  exact HV.out.back (fun b hb => hb.tokSet (by have := HLT.out; omega) _ _ _ _ _) (grown_tokSet (grown_trans HG1.out (grown_trans (grown_drew (grown_drew (World.grownBy.refl _ (some X)))) HG2.out)) (Nat.le_refl _) _ _ _ _ _)

set_option maxRecDepth 100000 in
set_option maxHeartbeats 4000000 in
theorem one_fig (X : Nat) (s : ByteArray) (a : Nat) (w : World) (hT : IsText X s a w) (ha : a < s.size) (hs : s.size ≤ 65536) (hE : ErrW w) (h45 : (s[a] == 45) = false) (h1 : ofB sml s[a] = false) (h2 : ofB bgI s[a] = false) (h3 : ofB figI s[a] = true) :
    Calls Tryz.prog 93 #[.pointer (some ⟨X, 0, none⟩)] w (OneIs X s (numL s[a] (s.data.toList.drop (a + 1))) w) := by
  have hx := hT.grown (World.grownBy_alloc w (.cells #[.int .i64 0, .string ⟨#[]⟩, .int .i64 0, .bool false, .int .i64 0] 71) none) (by simp)
  have x0 := hx.cell0
  have x1 := hx.cell1
  have HX := Lib.hid hx
  have C0 := Lib.hid x0
  have C1 := Lib.hid x1
  have HLT := Lib.hid hT.lt
  have HK := Lib.hid (IsTok.new (v0 := .int .i64 0) (v1 := .string ⟨#[]⟩) (v2 := .int .i64 0) (v3 := .bool false) (v4 := .int .i64 0) w)
  have HE := Lib.hid (hE.below ((Below.refl w.heap.size w).alloc (Nat.le_refl _) (.cells #[.int .i64 0, .string ⟨#[]⟩, .int .i64 0, .bool false, .int .i64 0] 71)))
  have HP := Lib.hid (show Lib.hasPrefix (s.extract a s.size).data.toList [45] = false by
    rw [show (s.extract a s.size).data.toList = s.data.toList.drop a by
      simp only [ByteArray.data_extract, Array.toList_extract, List.extract]
      rw [List.take_of_length_le (by simp)], drop_at ha, prefix45, h45])
  have HA := Lib.hid (show a ≤ s.size by omega)
  have HPC := Lib.hid (show ∀ w, Calls Tryz.prog 123 #[.string (s.extract a s.size), .string ⟨#[45]⟩] w fun e w' => e = .returned (.bool false) ∧ w' = w from fun w => by rw [← HP.out]; exact Tryz.strings_HasPrefix _ _ _)
  have ha2 : a ≤ s.size := HA.out
  have M0 := Lib.hid (show moreB sml s a = false by rw [moreB_at ha]; exact h1)
  have M1 := Lib.hid (show moreB bgI s a = false by rw [moreB_at ha]; exact h2)
  have M2 := Lib.hid (show moreB figI s a = true by rw [moreB_at ha]; exact h3)
  have b39 := 0
  clear b39 hT hx hE h45 h1 h2 h3
  go_enter Tryz.func93, Tryz.ntmps93
  go_wp2_with fail
  go_quiet (first | (go_at_call 123; refine Calls.quiet_of_same (HPC.out _)))
  generalize hW1 : World.drewN _ _ = W1
  have HX1 := Lib.hid (show IsText X s a W1 by rw [← hW1]; exact HX.out)
  have HK1 := Lib.hid (show IsTok w.heap.size (.int .i64 0) (.string ⟨#[]⟩) (.int .i64 0) (.bool false) (.int .i64 0) W1 by rw [← hW1]; exact HK.out)
  have HE1 := Lib.hid (show ErrW W1 by rw [← hW1]; exact HE.out)
  have HG1 := Lib.hid (show w.grownBy W1 (some X) by rw [← hW1]; exact grown_trans (World.grownBy_alloc w (.cells #[.int .i64 0, .string ⟨#[]⟩, .int .i64 0, .bool false, .int .i64 0] 71) _) (grown_below (below_drewN' (Below.refl _ _) _) _))
  have c0 := HX1.out.cell0
  have c1 := HX1.out.cell1
  clear hW1 x0 x1
  go_wp2_with (first
    | (go_at_call 118; (with_reducible refine (more_calls en_small tsmall_calls X s a _ ?_).mono ?_); (focus (exact HX1.out)); rintro e w' ⟨rfl, rfl⟩; rw [M0.out])
    | (go_at_call 118; (with_reducible refine (more_calls en_big tbig_calls X s a _ ?_).mono ?_); (focus (exact HX1.out)); rintro e w' ⟨rfl, rfl⟩; rw [M1.out])
    | (go_at_call 118; (with_reducible refine (more_calls en_fig tfig_calls X s a _ ?_).mono ?_); (focus (exact HX1.out)); rintro e w' ⟨rfl, rfl⟩; rw [M2.out])
    | (go_at_call 129; (with_reducible refine (number_calls X s a _ ?_ ha hs ?_).mono ?_); (focus (exact HX1.out)); (focus (exact HE1.out)); rintro e w2 ho; obtain ⟨k, t, n, q, er, rfl, hg2, hv⟩ := ho.cells; have hk2 := HK1.out.grown (row := some X) (grown_trans (grown_drew (grown_drew (grown_drew (World.grownBy.refl _ (some X))))) hg2) (by have := HLT.out; simp; omega); have k0 := hk2.c0; have k1 := hk2.c1; have k2 := hk2.c2; have k3 := hk2.c3; have k4 := hk2.c4; have l0 := hk2.fr 0; have l1 := hk2.fr 1; have l2 := hk2.fr 2; have l3 := hk2.fr 3; have l4 := hk2.fr 4; have HK2 := Lib.hid hk2; have HG2 := Lib.hid hg2; have HV := Lib.hid hv; clear hk2 hg2 hv ho))
  have hset := HK2.out.set (.int .i64 k) (.string t) (.int .i64 n) (.bool q) (.int .i64 0)
  have r0 := hset.c0; have r1 := hset.c1; have r2 := hset.c2; have r3 := hset.c3; have r4 := hset.c4
  refine bodyPost_ret (v := .tuple #[.agg #[.int .i64 k, .string t, .int .i64 n, .bool q, .int .i64 0], .int .i64 er]) (by simp [results, Tryz.results93, go_sem, r0, r1, r2, r3, r4]) rfl ?_
  exact HV.out.back (fun b hb => hb.tokSet (by have := HLT.out; omega) _ _ _ _ _) (grown_tokSet (grown_trans HG1.out (grown_trans (grown_drew (grown_drew (grown_drew (World.grownBy.refl _ (some X))))) HG2.out)) (Nat.le_refl _) _ _ _ _ _)

set_option maxRecDepth 100000 in
set_option maxHeartbeats 4000000 in
theorem one_neg (X : Nat) (s : ByteArray) (a : Nat) (w : World) (hT : IsText X s a w) (ha : a < s.size) (hs : s.size ≤ 65536) (hE : ErrW w) (h45 : (s[a] == 45) = true) (hk2 : a + 1 < s.size) (h4 : ofB figI s[a + 1] = true) (h1 : ofB sml s[a] = false) (h2 : ofB bgI s[a] = false) (h3 : ofB figI s[a] = false) :
    Calls Tryz.prog 93 #[.pointer (some ⟨X, 0, none⟩)] w (OneIs X s (numL s[a] (s.data.toList.drop (a + 1))) w) := by
  have hx := hT.grown (World.grownBy_alloc w (.cells #[.int .i64 0, .string ⟨#[]⟩, .int .i64 0, .bool false, .int .i64 0] 71) none) (by simp)
  have x0 := hx.cell0
  have x1 := hx.cell1
  have HX := Lib.hid hx
  have C0 := Lib.hid x0
  have C1 := Lib.hid x1
  have HLT := Lib.hid hT.lt
  have HK := Lib.hid (IsTok.new (v0 := .int .i64 0) (v1 := .string ⟨#[]⟩) (v2 := .int .i64 0) (v3 := .bool false) (v4 := .int .i64 0) w)
  have HE := Lib.hid (hE.below ((Below.refl w.heap.size w).alloc (Nat.le_refl _) (.cells #[.int .i64 0, .string ⟨#[]⟩, .int .i64 0, .bool false, .int .i64 0] 71)))
  have HP := Lib.hid (show Lib.hasPrefix (s.extract a s.size).data.toList [45] = true by
    rw [show (s.extract a s.size).data.toList = s.data.toList.drop a by
      simp only [ByteArray.data_extract, Array.toList_extract, List.extract]
      rw [List.take_of_length_le (by simp)], drop_at ha, prefix45, h45])
  have HA := Lib.hid (show a ≤ s.size by omega)
  have HPC := Lib.hid (show ∀ w, Calls Tryz.prog 123 #[.string (s.extract a s.size), .string ⟨#[45]⟩] w fun e w' => e = .returned (.bool true) ∧ w' = w from fun w => by rw [← HP.out]; exact Tryz.strings_HasPrefix _ _ _)
  have ha2 : a ≤ s.size := HA.out
  have M0 := Lib.hid (show moreB sml s a = false by rw [moreB_at ha]; exact h1)
  have M1 := Lib.hid (show moreB bgI s a = false by rw [moreB_at ha]; exact h2)
  have M2 := Lib.hid (show moreB figI s a = false by rw [moreB_at ha]; exact h3)
  have hlt2 : decide ((a : Int) + 1 < (s.size : Int)) = true := decide_eq_true (by omega)
  have hlt3 : (a : Int) + 1 < (s.size : Int) := by omega
  have hwr : IntKind.i64.wrap ((a : Int) + 1) = (a : Int) + 1 := IntWalk.i64_in _ (by omega)
  have HF := Lib.hid (show figI ((s[a + 1]'hk2).toNat : Int) = true from h4)
  have HFC := Lib.hid (show ∀ w, Calls Tryz.prog 124 #[.int .u8 ((s[a + 1]'hk2).toNat : Int)] w fun e w' => e = .returned (.bool true) ∧ w' = w from fun w => (tfig_calls _ w).mono (by rintro e w' ⟨rfl, rfl⟩; exact ⟨by rw [HF.out], rfl⟩))
  have b39 := 0
  clear b39 hT hx hE h45 h1 h2 h3 h4
  go_enter Tryz.func93, Tryz.ntmps93
  go_wp2_with fail
  go_region_held3 (fun W => W.cell? ⟨X, 0, none⟩ = some (.string s) ∧ W.cell? ⟨X, 1, none⟩ = some (.int .i64 (a : Int)))
    ((go_split_ands; refine ⟨?_, ?_⟩; (focus (first | with_reducible assumption | (refine cell_below (w := w.alloc (.cells #[.int .i64 0, .string ⟨#[]⟩, .int .i64 0, .bool false, .int .i64 0] 71)) ?_ C0.out; (focus (repeat (first | with_reducible assumption | with_reducible exact Below.refl _ _ | with_reducible apply Below.drew)))))); (focus (first | with_reducible assumption | (refine cell_below (w := w.alloc (.cells #[.int .i64 0, .string ⟨#[]⟩, .int .i64 0, .bool false, .int .i64 0] 71)) ?_ C1.out; (focus (repeat (first | with_reducible assumption | with_reducible exact Below.refl _ _ | with_reducible apply Below.drew))))))))
    (first
      | (go_at_call 123; (with_reducible refine (HPC.out _).mono ?_); rintro e w' ⟨rfl, hw⟩; rw [hw]; clear hw)
      | (go_at_call 124; (with_reducible refine (HFC.out _).mono ?_); rintro e w' ⟨rfl, hw⟩; rw [hw]; clear hw))
  generalize hW1 : World.drew _ = W1
  have HX1 := Lib.hid (show IsText X s a W1 by rw [← hW1]; exact HX.out)
  have HK1 := Lib.hid (show IsTok w.heap.size (.int .i64 0) (.string ⟨#[]⟩) (.int .i64 0) (.bool false) (.int .i64 0) W1 by rw [← hW1]; exact HK.out)
  have HE1 := Lib.hid (show ErrW W1 by rw [← hW1]; exact HE.out)
  have HG1 := Lib.hid (show w.grownBy W1 (some X) by rw [← hW1]; exact grown_trans (World.grownBy_alloc w (.cells #[.int .i64 0, .string ⟨#[]⟩, .int .i64 0, .bool false, .int .i64 0] 71) _) (grown_below (Below.refl _ _).drew _))
  have c0 := HX1.out.cell0
  have c1 := HX1.out.cell1
  clear hW1 x0 x1
  go_wp2_with (first
    | (go_at_call 118; (with_reducible refine (more_calls en_small tsmall_calls X s a _ ?_).mono ?_); (focus (exact HX1.out)); rintro e w' ⟨rfl, rfl⟩; rw [M0.out])
    | (go_at_call 118; (with_reducible refine (more_calls en_big tbig_calls X s a _ ?_).mono ?_); (focus (exact HX1.out)); rintro e w' ⟨rfl, rfl⟩; rw [M1.out])
    | (go_at_call 118; (with_reducible refine (more_calls en_fig tfig_calls X s a _ ?_).mono ?_); (focus (exact HX1.out)); rintro e w' ⟨rfl, rfl⟩; rw [M2.out])
    | (go_at_call 129; (with_reducible refine (number_calls X s a _ ?_ ha hs ?_).mono ?_); (focus (exact HX1.out)); (focus (exact HE1.out)); rintro e w2 ho; obtain ⟨k, t, n, q, er, rfl, hg2, hv⟩ := ho.cells; have hk2 := HK1.out.grown (row := some X) (grown_trans (grown_drew (grown_drew (grown_drew (World.grownBy.refl _ (some X))))) hg2) (by have := HLT.out; simp; omega); have k0 := hk2.c0; have k1 := hk2.c1; have k2 := hk2.c2; have k3 := hk2.c3; have k4 := hk2.c4; have l0 := hk2.fr 0; have l1 := hk2.fr 1; have l2 := hk2.fr 2; have l3 := hk2.fr 3; have l4 := hk2.fr 4; have HK2 := Lib.hid hk2; have HG2 := Lib.hid hg2; have HV := Lib.hid hv; clear hk2 hg2 hv ho))
  have hset := HK2.out.set (.int .i64 k) (.string t) (.int .i64 n) (.bool q) (.int .i64 0)
  have r0 := hset.c0; have r1 := hset.c1; have r2 := hset.c2; have r3 := hset.c3; have r4 := hset.c4
  refine bodyPost_ret (v := .tuple #[.agg #[.int .i64 k, .string t, .int .i64 n, .bool q, .int .i64 0], .int .i64 er]) (by simp [results, Tryz.results93, go_sem, r0, r1, r2, r3, r4]) rfl ?_
  exact HV.out.back (fun b hb => hb.tokSet (by have := HLT.out; omega) _ _ _ _ _) (grown_tokSet (grown_trans HG1.out (grown_trans (grown_drew (grown_drew (grown_drew (World.grownBy.refl _ (some X))))) HG2.out)) (Nat.le_refl _) _ _ _ _ _)

set_option maxRecDepth 100000 in
set_option maxHeartbeats 4000000 in
theorem one_quot (X : Nat) (s : ByteArray) (a : Nat) (w : World) (hT : IsText X s a w) (ha : a < s.size) (hs : s.size ≤ 65536) (hE : ErrW w) (h45 : (s[a] == 45) = false) (h1 : ofB sml s[a] = false) (h2 : ofB bgI s[a] = false) (h3 : ofB figI s[a] = false) (h39 : (((s[a]'ha).toNat : Int) == 39) = true) :
    Calls Tryz.prog 93 #[.pointer (some ⟨X, 0, none⟩)] w (OneIs X s (qres (quotL (s.data.toList.drop (a + 1)))) w) := by
  have hx := hT.grown (World.grownBy_alloc w (.cells #[.int .i64 0, .string ⟨#[]⟩, .int .i64 0, .bool false, .int .i64 0] 71) none) (by simp)
  have x0 := hx.cell0
  have x1 := hx.cell1
  have HX := Lib.hid hx
  have C0 := Lib.hid x0
  have C1 := Lib.hid x1
  have HLT := Lib.hid hT.lt
  have HK := Lib.hid (IsTok.new (v0 := .int .i64 0) (v1 := .string ⟨#[]⟩) (v2 := .int .i64 0) (v3 := .bool false) (v4 := .int .i64 0) w)
  have HE := Lib.hid (hE.below ((Below.refl w.heap.size w).alloc (Nat.le_refl _) (.cells #[.int .i64 0, .string ⟨#[]⟩, .int .i64 0, .bool false, .int .i64 0] 71)))
  have HP := Lib.hid (show Lib.hasPrefix (s.extract a s.size).data.toList [45] = false by
    rw [show (s.extract a s.size).data.toList = s.data.toList.drop a by
      simp only [ByteArray.data_extract, Array.toList_extract, List.extract]
      rw [List.take_of_length_le (by simp)], drop_at ha, prefix45, h45])
  have HA := Lib.hid (show a ≤ s.size by omega)
  have HPC := Lib.hid (show ∀ w, Calls Tryz.prog 123 #[.string (s.extract a s.size), .string ⟨#[45]⟩] w fun e w' => e = .returned (.bool false) ∧ w' = w from fun w => by rw [← HP.out]; exact Tryz.strings_HasPrefix _ _ _)
  have ha2 : a ≤ s.size := HA.out
  have M0 := Lib.hid (show moreB sml s a = false by rw [moreB_at ha]; exact h1)
  have M1 := Lib.hid (show moreB bgI s a = false by rw [moreB_at ha]; exact h2)
  have M2 := Lib.hid (show moreB figI s a = false by rw [moreB_at ha]; exact h3)
  have b39 := 0
  clear b39 hT hx hE h45 h1 h2 h3
  go_enter Tryz.func93, Tryz.ntmps93
  go_wp2_with fail
  go_quiet (first | (go_at_call 123; refine Calls.quiet_of_same (HPC.out _)))
  generalize hW1 : World.drewN _ _ = W1
  have HX1 := Lib.hid (show IsText X s a W1 by rw [← hW1]; exact HX.out)
  have HK1 := Lib.hid (show IsTok w.heap.size (.int .i64 0) (.string ⟨#[]⟩) (.int .i64 0) (.bool false) (.int .i64 0) W1 by rw [← hW1]; exact HK.out)
  have HE1 := Lib.hid (show ErrW W1 by rw [← hW1]; exact HE.out)
  have HG1 := Lib.hid (show w.grownBy W1 (some X) by rw [← hW1]; exact grown_trans (World.grownBy_alloc w (.cells #[.int .i64 0, .string ⟨#[]⟩, .int .i64 0, .bool false, .int .i64 0] 71) _) (grown_below (below_drewN' (Below.refl _ _) _) _))
  have c0 := HX1.out.cell0
  have c1 := HX1.out.cell1
  clear hW1 x0 x1
  go_wp2_with (first
    | (go_at_call 118; (with_reducible refine (more_calls en_small tsmall_calls X s a _ ?_).mono ?_); (focus (exact HX1.out)); rintro e w' ⟨rfl, rfl⟩; rw [M0.out])
    | (go_at_call 118; (with_reducible refine (more_calls en_big tbig_calls X s a _ ?_).mono ?_); (focus (exact HX1.out)); rintro e w' ⟨rfl, rfl⟩; rw [M1.out])
    | (go_at_call 118; (with_reducible refine (more_calls en_fig tfig_calls X s a _ ?_).mono ?_); (focus (exact HX1.out)); rintro e w' ⟨rfl, rfl⟩; rw [M2.out]))
  go_region
  go_wp2_with (first
    | (go_at_call 130; (with_reducible refine (quoted_calls X s a _ ?_ ha hs).mono ?_); (focus (exact HX1.out)); rintro e w2 ho; obtain ⟨k, t, n, q, er, rfl, hg2, hv⟩ := ho.cells; have hk2 := HK1.out.grown (row := some X) (grown_trans (grown_drew (grown_drew (grown_drew (grown_drew (World.grownBy.refl _ (some X)))))) hg2) (by have := HLT.out; simp; omega); have k0 := hk2.c0; have k1 := hk2.c1; have k2 := hk2.c2; have k3 := hk2.c3; have k4 := hk2.c4; have l0 := hk2.fr 0; have l1 := hk2.fr 1; have l2 := hk2.fr 2; have l3 := hk2.fr 3; have l4 := hk2.fr 4; have HK2 := Lib.hid hk2; have HG2 := Lib.hid hg2; have HV := Lib.hid hv; clear hk2 hg2 hv ho))
  have hset := HK2.out.set (.int .i64 k) (.string t) (.int .i64 n) (.bool q) (.int .i64 0)
  have r0 := hset.c0; have r1 := hset.c1; have r2 := hset.c2; have r3 := hset.c3; have r4 := hset.c4
  refine bodyPost_ret (v := .tuple #[.agg #[.int .i64 k, .string t, .int .i64 n, .bool q, .int .i64 0], .int .i64 er]) (by simp [results, Tryz.results93, go_sem, r0, r1, r2, r3, r4]) rfl ?_
  exact HV.out.back (fun b hb => hb.tokSet (by have := HLT.out; omega) _ _ _ _ _) (grown_tokSet (grown_trans HG1.out (grown_trans (grown_drew (grown_drew (grown_drew (grown_drew (World.grownBy.refl _ (some X)))))) HG2.out)) (Nat.le_refl _) _ _ _ _ _)

set_option maxRecDepth 100000 in
set_option maxHeartbeats 4000000 in
theorem one_mark (X : Nat) (s : ByteArray) (a : Nat) (w : World) (hT : IsText X s a w) (ha : a < s.size) (hs : s.size ≤ 65536) (hE : ErrW w) (h45 : (s[a] == 45) = false) (h1 : ofB sml s[a] = false) (h2 : ofB bgI s[a] = false) (h3 : ofB figI s[a] = false) (h39 : (((s[a]'ha).toNat : Int) == 39) = false) :
    Calls Tryz.prog 93 #[.pointer (some ⟨X, 0, none⟩)] w (OneIs X s (markL (s.data.toList.drop a)) w) := by
  have hx := hT.grown (World.grownBy_alloc w (.cells #[.int .i64 0, .string ⟨#[]⟩, .int .i64 0, .bool false, .int .i64 0] 71) none) (by simp)
  have x0 := hx.cell0
  have x1 := hx.cell1
  have HX := Lib.hid hx
  have C0 := Lib.hid x0
  have C1 := Lib.hid x1
  have HLT := Lib.hid hT.lt
  have HK := Lib.hid (IsTok.new (v0 := .int .i64 0) (v1 := .string ⟨#[]⟩) (v2 := .int .i64 0) (v3 := .bool false) (v4 := .int .i64 0) w)
  have HE := Lib.hid (hE.below ((Below.refl w.heap.size w).alloc (Nat.le_refl _) (.cells #[.int .i64 0, .string ⟨#[]⟩, .int .i64 0, .bool false, .int .i64 0] 71)))
  have HP := Lib.hid (show Lib.hasPrefix (s.extract a s.size).data.toList [45] = false by
    rw [show (s.extract a s.size).data.toList = s.data.toList.drop a by
      simp only [ByteArray.data_extract, Array.toList_extract, List.extract]
      rw [List.take_of_length_le (by simp)], drop_at ha, prefix45, h45])
  have HA := Lib.hid (show a ≤ s.size by omega)
  have HPC := Lib.hid (show ∀ w, Calls Tryz.prog 123 #[.string (s.extract a s.size), .string ⟨#[45]⟩] w fun e w' => e = .returned (.bool false) ∧ w' = w from fun w => by rw [← HP.out]; exact Tryz.strings_HasPrefix _ _ _)
  have ha2 : a ≤ s.size := HA.out
  have M0 := Lib.hid (show moreB sml s a = false by rw [moreB_at ha]; exact h1)
  have M1 := Lib.hid (show moreB bgI s a = false by rw [moreB_at ha]; exact h2)
  have M2 := Lib.hid (show moreB figI s a = false by rw [moreB_at ha]; exact h3)
  have b39 := 0
  clear b39 hT hx hE h45 h1 h2 h3
  go_enter Tryz.func93, Tryz.ntmps93
  go_wp2_with fail
  go_quiet (first | (go_at_call 123; refine Calls.quiet_of_same (HPC.out _)))
  generalize hW1 : World.drewN _ _ = W1
  have HX1 := Lib.hid (show IsText X s a W1 by rw [← hW1]; exact HX.out)
  have HK1 := Lib.hid (show IsTok w.heap.size (.int .i64 0) (.string ⟨#[]⟩) (.int .i64 0) (.bool false) (.int .i64 0) W1 by rw [← hW1]; exact HK.out)
  have HE1 := Lib.hid (show ErrW W1 by rw [← hW1]; exact HE.out)
  have HG1 := Lib.hid (show w.grownBy W1 (some X) by rw [← hW1]; exact grown_trans (World.grownBy_alloc w (.cells #[.int .i64 0, .string ⟨#[]⟩, .int .i64 0, .bool false, .int .i64 0] 71) _) (grown_below (below_drewN' (Below.refl _ _) _) _))
  have c0 := HX1.out.cell0
  have c1 := HX1.out.cell1
  clear hW1 x0 x1
  go_wp2_with (first
    | (go_at_call 118; (with_reducible refine (more_calls en_small tsmall_calls X s a _ ?_).mono ?_); (focus (exact HX1.out)); rintro e w' ⟨rfl, rfl⟩; rw [M0.out])
    | (go_at_call 118; (with_reducible refine (more_calls en_big tbig_calls X s a _ ?_).mono ?_); (focus (exact HX1.out)); rintro e w' ⟨rfl, rfl⟩; rw [M1.out])
    | (go_at_call 118; (with_reducible refine (more_calls en_fig tfig_calls X s a _ ?_).mono ?_); (focus (exact HX1.out)); rintro e w' ⟨rfl, rfl⟩; rw [M2.out]))
  go_region
  go_wp2_with (first
    | (go_at_call 125; (with_reducible refine (mark_calls X s a _ ?_ ha hs).mono ?_); (focus (exact HX1.out)); rintro e w2 ho; obtain ⟨k, t, n, q, er, rfl, hg2, hv⟩ := ho.cells; have hk2 := HK1.out.grown (row := some X) (grown_trans (grown_drew (grown_drew (grown_drew (grown_drew (World.grownBy.refl _ (some X)))))) hg2) (by have := HLT.out; simp; omega); have k0 := hk2.c0; have k1 := hk2.c1; have k2 := hk2.c2; have k3 := hk2.c3; have k4 := hk2.c4; have l0 := hk2.fr 0; have l1 := hk2.fr 1; have l2 := hk2.fr 2; have l3 := hk2.fr 3; have l4 := hk2.fr 4; have HK2 := Lib.hid hk2; have HG2 := Lib.hid hg2; have HV := Lib.hid hv; clear hk2 hg2 hv ho))
  have hset := HK2.out.set (.int .i64 k) (.string t) (.int .i64 n) (.bool q) (.int .i64 0)
  have r0 := hset.c0; have r1 := hset.c1; have r2 := hset.c2; have r3 := hset.c3; have r4 := hset.c4
  refine bodyPost_ret (v := .tuple #[.agg #[.int .i64 k, .string t, .int .i64 n, .bool q, .int .i64 0], .int .i64 er]) (by simp [results, Tryz.results93, go_sem, r0, r1, r2, r3, r4]) rfl ?_
  exact HV.out.back (fun b hb => hb.tokSet (by have := HLT.out; omega) _ _ _ _ _) (grown_tokSet (grown_trans HG1.out (grown_trans (grown_drew (grown_drew (grown_drew (grown_drew (World.grownBy.refl _ (some X)))))) HG2.out)) (Nat.le_refl _) _ _ _ _ _)

set_option maxRecDepth 100000 in
set_option maxHeartbeats 4000000 in
theorem one_dash (X : Nat) (s : ByteArray) (a : Nat) (w : World) (hT : IsText X s a w) (ha : a < s.size) (hs : s.size ≤ 65536) (hE : ErrW w) (h45 : (s[a] == 45) = true) (hk2 : a + 1 < s.size) (h4 : ofB figI s[a + 1] = false) (h1 : ofB sml s[a] = false) (h2 : ofB bgI s[a] = false) (h3 : ofB figI s[a] = false) (h39 : (((s[a]'ha).toNat : Int) == 39) = false) :
    Calls Tryz.prog 93 #[.pointer (some ⟨X, 0, none⟩)] w (OneIs X s (markL (s.data.toList.drop a)) w) := by
  have hx := hT.grown (World.grownBy_alloc w (.cells #[.int .i64 0, .string ⟨#[]⟩, .int .i64 0, .bool false, .int .i64 0] 71) none) (by simp)
  have x0 := hx.cell0
  have x1 := hx.cell1
  have HX := Lib.hid hx
  have C0 := Lib.hid x0
  have C1 := Lib.hid x1
  have HLT := Lib.hid hT.lt
  have HK := Lib.hid (IsTok.new (v0 := .int .i64 0) (v1 := .string ⟨#[]⟩) (v2 := .int .i64 0) (v3 := .bool false) (v4 := .int .i64 0) w)
  have HE := Lib.hid (hE.below ((Below.refl w.heap.size w).alloc (Nat.le_refl _) (.cells #[.int .i64 0, .string ⟨#[]⟩, .int .i64 0, .bool false, .int .i64 0] 71)))
  have HP := Lib.hid (show Lib.hasPrefix (s.extract a s.size).data.toList [45] = true by
    rw [show (s.extract a s.size).data.toList = s.data.toList.drop a by
      simp only [ByteArray.data_extract, Array.toList_extract, List.extract]
      rw [List.take_of_length_le (by simp)], drop_at ha, prefix45, h45])
  have HA := Lib.hid (show a ≤ s.size by omega)
  have HPC := Lib.hid (show ∀ w, Calls Tryz.prog 123 #[.string (s.extract a s.size), .string ⟨#[45]⟩] w fun e w' => e = .returned (.bool true) ∧ w' = w from fun w => by rw [← HP.out]; exact Tryz.strings_HasPrefix _ _ _)
  have ha2 : a ≤ s.size := HA.out
  have M0 := Lib.hid (show moreB sml s a = false by rw [moreB_at ha]; exact h1)
  have M1 := Lib.hid (show moreB bgI s a = false by rw [moreB_at ha]; exact h2)
  have M2 := Lib.hid (show moreB figI s a = false by rw [moreB_at ha]; exact h3)
  have hlt2 : decide ((a : Int) + 1 < (s.size : Int)) = true := decide_eq_true (by omega)
  have hlt3 : (a : Int) + 1 < (s.size : Int) := by omega
  have hwr : IntKind.i64.wrap ((a : Int) + 1) = (a : Int) + 1 := IntWalk.i64_in _ (by omega)
  have HF := Lib.hid (show figI ((s[a + 1]'hk2).toNat : Int) = false from h4)
  have HFC := Lib.hid (show ∀ w, Calls Tryz.prog 124 #[.int .u8 ((s[a + 1]'hk2).toNat : Int)] w fun e w' => e = .returned (.bool false) ∧ w' = w from fun w => (tfig_calls _ w).mono (by rintro e w' ⟨rfl, rfl⟩; exact ⟨by rw [HF.out], rfl⟩))
  have b39 := 0
  clear b39 hT hx hE h45 h1 h2 h3 h4
  go_enter Tryz.func93, Tryz.ntmps93
  go_wp2_with fail
  go_region_held3 (fun W => W.cell? ⟨X, 0, none⟩ = some (.string s) ∧ W.cell? ⟨X, 1, none⟩ = some (.int .i64 (a : Int)))
    ((go_split_ands; refine ⟨?_, ?_⟩; (focus (first | with_reducible assumption | (refine cell_below (w := w.alloc (.cells #[.int .i64 0, .string ⟨#[]⟩, .int .i64 0, .bool false, .int .i64 0] 71)) ?_ C0.out; (focus (repeat (first | with_reducible assumption | with_reducible exact Below.refl _ _ | with_reducible apply Below.drew)))))); (focus (first | with_reducible assumption | (refine cell_below (w := w.alloc (.cells #[.int .i64 0, .string ⟨#[]⟩, .int .i64 0, .bool false, .int .i64 0] 71)) ?_ C1.out; (focus (repeat (first | with_reducible assumption | with_reducible exact Below.refl _ _ | with_reducible apply Below.drew))))))))
    (first
      | (go_at_call 123; (with_reducible refine (HPC.out _).mono ?_); rintro e w' ⟨rfl, hw⟩; rw [hw]; clear hw)
      | (go_at_call 124; (with_reducible refine (HFC.out _).mono ?_); rintro e w' ⟨rfl, hw⟩; rw [hw]; clear hw))
  generalize hW1 : World.drew _ = W1
  have HX1 := Lib.hid (show IsText X s a W1 by rw [← hW1]; exact HX.out)
  have HK1 := Lib.hid (show IsTok w.heap.size (.int .i64 0) (.string ⟨#[]⟩) (.int .i64 0) (.bool false) (.int .i64 0) W1 by rw [← hW1]; exact HK.out)
  have HE1 := Lib.hid (show ErrW W1 by rw [← hW1]; exact HE.out)
  have HG1 := Lib.hid (show w.grownBy W1 (some X) by rw [← hW1]; exact grown_trans (World.grownBy_alloc w (.cells #[.int .i64 0, .string ⟨#[]⟩, .int .i64 0, .bool false, .int .i64 0] 71) _) (grown_below (Below.refl _ _).drew _))
  have c0 := HX1.out.cell0
  have c1 := HX1.out.cell1
  clear hW1 x0 x1
  go_wp2_with (first
    | (go_at_call 118; (with_reducible refine (more_calls en_small tsmall_calls X s a _ ?_).mono ?_); (focus (exact HX1.out)); rintro e w' ⟨rfl, rfl⟩; rw [M0.out])
    | (go_at_call 118; (with_reducible refine (more_calls en_big tbig_calls X s a _ ?_).mono ?_); (focus (exact HX1.out)); rintro e w' ⟨rfl, rfl⟩; rw [M1.out])
    | (go_at_call 118; (with_reducible refine (more_calls en_fig tfig_calls X s a _ ?_).mono ?_); (focus (exact HX1.out)); rintro e w' ⟨rfl, rfl⟩; rw [M2.out]))
  go_region
  go_wp2_with (first
    | (go_at_call 125; (with_reducible refine (mark_calls X s a _ ?_ ha hs).mono ?_); (focus (exact HX1.out)); rintro e w2 ho; obtain ⟨k, t, n, q, er, rfl, hg2, hv⟩ := ho.cells; have hk2 := HK1.out.grown (row := some X) (grown_trans (grown_drew (grown_drew (grown_drew (grown_drew (World.grownBy.refl _ (some X)))))) hg2) (by have := HLT.out; simp; omega); have k0 := hk2.c0; have k1 := hk2.c1; have k2 := hk2.c2; have k3 := hk2.c3; have k4 := hk2.c4; have l0 := hk2.fr 0; have l1 := hk2.fr 1; have l2 := hk2.fr 2; have l3 := hk2.fr 3; have l4 := hk2.fr 4; have HK2 := Lib.hid hk2; have HG2 := Lib.hid hg2; have HV := Lib.hid hv; clear hk2 hg2 hv ho))
  have hset := HK2.out.set (.int .i64 k) (.string t) (.int .i64 n) (.bool q) (.int .i64 0)
  have r0 := hset.c0; have r1 := hset.c1; have r2 := hset.c2; have r3 := hset.c3; have r4 := hset.c4
  refine bodyPost_ret (v := .tuple #[.agg #[.int .i64 k, .string t, .int .i64 n, .bool q, .int .i64 0], .int .i64 er]) (by simp [results, Tryz.results93, go_sem, r0, r1, r2, r3, r4]) rfl ?_
  exact HV.out.back (fun b hb => hb.tokSet (by have := HLT.out; omega) _ _ _ _ _) (grown_tokSet (grown_trans HG1.out (grown_trans (grown_drew (grown_drew (grown_drew (grown_drew (World.grownBy.refl _ (some X)))))) HG2.out)) (Nat.le_refl _) _ _ _ _ _)

set_option maxRecDepth 100000 in
set_option maxHeartbeats 4000000 in
theorem one_last (X : Nat) (s : ByteArray) (a : Nat) (w : World) (hT : IsText X s a w) (ha : a < s.size) (hs : s.size ≤ 65536) (hE : ErrW w) (h45 : (s[a] == 45) = true) (hk2 : ¬ a + 1 < s.size) (h1 : ofB sml s[a] = false) (h2 : ofB bgI s[a] = false) (h3 : ofB figI s[a] = false) (h39 : (((s[a]'ha).toNat : Int) == 39) = false) :
    Calls Tryz.prog 93 #[.pointer (some ⟨X, 0, none⟩)] w (OneIs X s (markL (s.data.toList.drop a)) w) := by
  have hx := hT.grown (World.grownBy_alloc w (.cells #[.int .i64 0, .string ⟨#[]⟩, .int .i64 0, .bool false, .int .i64 0] 71) none) (by simp)
  have x0 := hx.cell0
  have x1 := hx.cell1
  have HX := Lib.hid hx
  have C0 := Lib.hid x0
  have C1 := Lib.hid x1
  have HLT := Lib.hid hT.lt
  have HK := Lib.hid (IsTok.new (v0 := .int .i64 0) (v1 := .string ⟨#[]⟩) (v2 := .int .i64 0) (v3 := .bool false) (v4 := .int .i64 0) w)
  have HE := Lib.hid (hE.below ((Below.refl w.heap.size w).alloc (Nat.le_refl _) (.cells #[.int .i64 0, .string ⟨#[]⟩, .int .i64 0, .bool false, .int .i64 0] 71)))
  have HP := Lib.hid (show Lib.hasPrefix (s.extract a s.size).data.toList [45] = true by
    rw [show (s.extract a s.size).data.toList = s.data.toList.drop a by
      simp only [ByteArray.data_extract, Array.toList_extract, List.extract]
      rw [List.take_of_length_le (by simp)], drop_at ha, prefix45, h45])
  have HA := Lib.hid (show a ≤ s.size by omega)
  have HPC := Lib.hid (show ∀ w, Calls Tryz.prog 123 #[.string (s.extract a s.size), .string ⟨#[45]⟩] w fun e w' => e = .returned (.bool true) ∧ w' = w from fun w => by rw [← HP.out]; exact Tryz.strings_HasPrefix _ _ _)
  have ha2 : a ≤ s.size := HA.out
  have M0 := Lib.hid (show moreB sml s a = false by rw [moreB_at ha]; exact h1)
  have M1 := Lib.hid (show moreB bgI s a = false by rw [moreB_at ha]; exact h2)
  have M2 := Lib.hid (show moreB figI s a = false by rw [moreB_at ha]; exact h3)
  have hlt2 : decide ((a : Int) + 1 < (s.size : Int)) = false := decide_eq_false (by omega)
  have b39 := 0
  clear b39 hT hx hE h45 h1 h2 h3
  go_enter Tryz.func93, Tryz.ntmps93
  go_wp2_with fail
  go_quiet (first | (go_at_call 123; refine Calls.quiet_of_same (HPC.out _)))
  generalize hW1 : World.drewN _ _ = W1
  have HX1 := Lib.hid (show IsText X s a W1 by rw [← hW1]; exact HX.out)
  have HK1 := Lib.hid (show IsTok w.heap.size (.int .i64 0) (.string ⟨#[]⟩) (.int .i64 0) (.bool false) (.int .i64 0) W1 by rw [← hW1]; exact HK.out)
  have HE1 := Lib.hid (show ErrW W1 by rw [← hW1]; exact HE.out)
  have HG1 := Lib.hid (show w.grownBy W1 (some X) by rw [← hW1]; exact grown_trans (World.grownBy_alloc w (.cells #[.int .i64 0, .string ⟨#[]⟩, .int .i64 0, .bool false, .int .i64 0] 71) _) (grown_below (below_drewN' (Below.refl _ _) _) _))
  have c0 := HX1.out.cell0
  have c1 := HX1.out.cell1
  clear hW1 x0 x1
  go_wp2_with (first
    | (go_at_call 118; (with_reducible refine (more_calls en_small tsmall_calls X s a _ ?_).mono ?_); (focus (exact HX1.out)); rintro e w' ⟨rfl, rfl⟩; rw [M0.out])
    | (go_at_call 118; (with_reducible refine (more_calls en_big tbig_calls X s a _ ?_).mono ?_); (focus (exact HX1.out)); rintro e w' ⟨rfl, rfl⟩; rw [M1.out])
    | (go_at_call 118; (with_reducible refine (more_calls en_fig tfig_calls X s a _ ?_).mono ?_); (focus (exact HX1.out)); rintro e w' ⟨rfl, rfl⟩; rw [M2.out]))
  go_region
  go_wp2_with (first
    | (go_at_call 125; (with_reducible refine (mark_calls X s a _ ?_ ha hs).mono ?_); (focus (exact HX1.out)); rintro e w2 ho; obtain ⟨k, t, n, q, er, rfl, hg2, hv⟩ := ho.cells; have hk2 := HK1.out.grown (row := some X) (grown_trans (grown_drew (grown_drew (grown_drew (grown_drew (World.grownBy.refl _ (some X)))))) hg2) (by have := HLT.out; simp; omega); have k0 := hk2.c0; have k1 := hk2.c1; have k2 := hk2.c2; have k3 := hk2.c3; have k4 := hk2.c4; have l0 := hk2.fr 0; have l1 := hk2.fr 1; have l2 := hk2.fr 2; have l3 := hk2.fr 3; have l4 := hk2.fr 4; have HK2 := Lib.hid hk2; have HG2 := Lib.hid hg2; have HV := Lib.hid hv; clear hk2 hg2 hv ho))
  have hset := HK2.out.set (.int .i64 k) (.string t) (.int .i64 n) (.bool q) (.int .i64 0)
  have r0 := hset.c0; have r1 := hset.c1; have r2 := hset.c2; have r3 := hset.c3; have r4 := hset.c4
  refine bodyPost_ret (v := .tuple #[.agg #[.int .i64 k, .string t, .int .i64 n, .bool q, .int .i64 0], .int .i64 er]) (by simp [results, Tryz.results93, go_sem, r0, r1, r2, r3, r4]) rfl ?_
  exact HV.out.back (fun b hb => hb.tokSet (by have := HLT.out; omega) _ _ _ _ _) (grown_tokSet (grown_trans HG1.out (grown_trans (grown_drew (grown_drew (grown_drew (grown_drew (World.grownBy.refl _ (some X)))))) HG2.out)) (Nat.le_refl _) _ _ _ _ _)

theorem one_calls (X : Nat) (s : ByteArray) (a : Nat) (w : World) (hT : IsText X s a w) (ha : a < s.size) (hs : s.size ≤ 65536) (hE : ErrW w) :
    Calls Tryz.prog 93 #[.pointer (some ⟨X, 0, none⟩)] w (OneIs X s (oneL s[a] (s.data.toList.drop (a + 1))) w) := by
  unfold oneL
  rw [← drop_at ha]
  have hdash : (s[a] == 45) = true → ofB sml s[a] = false ∧ ofB bgI s[a] = false ∧ ofB figI s[a] = false ∧ (((s[a]'ha).toNat : Int) == 39) = false ∧ (s[a] == 39) = false := by
    intro h
    have h2 : s[a] = 45 := by simpa using h
    rw [h2]
    decide
  cases h45 : (s[a] == 45) with
  | true =>
    obtain ⟨h1, h2, h3, h39, h39'⟩ := hdash h45
    rw [h1, h2, h3, h39']
    by_cases hk2 : a + 1 < s.size
    · have hd : s.data.toList.drop (a + 1) = s[a + 1] :: s.data.toList.drop (a + 1 + 1) := drop_at hk2
      cases h4 : ofB figI s[a + 1] with
      | true =>
        have e : (true && !(s.data.toList.drop (a + 1)).isEmpty && ofB figI ((s.data.toList.drop (a + 1)).headD 0)) = true := by rw [hd]; simpa using h4
        rw [e]
        exact one_neg X s a w hT ha hs hE h45 hk2 h4 h1 h2 h3
      | false =>
        have e : (true && !(s.data.toList.drop (a + 1)).isEmpty && ofB figI ((s.data.toList.drop (a + 1)).headD 0)) = false := by rw [hd]; simpa using h4
        rw [e]
        exact one_dash X s a w hT ha hs hE h45 hk2 h4 h1 h2 h3 h39
    · have hd : s.data.toList.drop (a + 1) = [] := drop_end (by omega)
      have e : (true && !(s.data.toList.drop (a + 1)).isEmpty && ofB figI ((s.data.toList.drop (a + 1)).headD 0)) = false := by rw [hd]; rfl
      rw [e]
      exact one_last X s a w hT ha hs hE h45 hk2 h1 h2 h3 h39
  | false =>
    rw [Bool.false_and, Bool.false_and, Bool.or_false]
    cases h1 : ofB sml s[a] with
    | true => exact one_small X s a w hT ha hs hE h45 h1
    | false =>
      cases h2 : ofB bgI s[a] with
      | true => exact one_big X s a w hT ha hs hE h45 h1 h2
      | false =>
        cases h3 : ofB figI s[a] with
        | true => exact one_fig X s a w hT ha hs hE h45 h1 h2 h3
        | false =>
          cases h39 : (((s[a]'ha).toNat : Int) == 39) with
          | true =>
            have h39' : (s[a] == 39) = true := by rw [byteN (d := 39) h39 (by decide)]; rfl
            rw [h39']
            exact one_quot X s a w hT ha hs hE h45 h1 h2 h3 h39
          | false =>
            have h39' : (s[a] == 39) = false := byteNot (d := 39) h39 (by decide)
            rw [h39']
            exact one_mark X s a w hT ha hs hE h45 h1 h2 h3 h39
end Go.Proofs.YtminbdcabacfbaaGreatDoor.V

namespace Go.Proofs.YtminbdcabacfbaaGreatDoor.V
set_option linter.unusedVariables false
set_option linter.unusedSimpArgs false
open Go.RowKit

/-- Tokens as they lie in cells. -/
def tokC (p : TP') : List Value := [.int .i64 (p.1.k : Int), .string ⟨p.1.s.toArray⟩, .int .i64 p.1.n, .bool p.1.q, .int .i64 (p.2 : Int)]
def tokCells (l : List TP') : List Value := l.flatMap tokC
theorem tokCells_snoc (l : List TP') (p : TP') : tokCells (l ++ [p]) = tokCells l ++ tokC p := by simp [tokCells]
theorem tok_info : (Tryz.prog.info? 71).map (fun i => (i.zero, i.size, i.bytes)) = some (some (.agg #[.int .i64 0, .string ⟨#[]⟩, .int .i64 0, .bool false, .int .i64 0]), 5, 48) := by kernel_rfl
theorem oneL_bad {c : UInt8} {t : List UInt8} {e : Nat} (h : oneL c t = .bad e) : e = 2 ∨ e = 3 ∨ e = 4 := by
  unfold oneL at h
  repeat' split at h
  all_goals first
    | (unfold namedL at h; split at h <;> simp at h <;> omega)
    | (unfold numL at h; split at h <;> simp at h <;> omega)
    | (unfold markL at h; repeat' split at h; all_goals (simp at h; try omega))
    | (cases hq : quotL t <;> rw [hq] at h <;> simp [qres] at h <;> omega)

theorem skip_idem (l : List UInt8) : ∀ m, skipR false (skipR m l) = skipR m l := by
  induction l with
  | nil => intro m; simp [skipR]
  | cons c t ih =>
    intro m
    rw [skipR]
    split
    · rename_i h
      unfold skipR
      rw [if_pos]
      simp_all
    · exact ih _
theorem app_nil (s : Scan) : Scan.app [] s = s := by cases s <;> rfl
theorem grown_strip {w w' : World} {o : Obj} (h : (w.alloc o).grownBy w' (some w.heap.size)) : w.grownBy w' none :=
  ⟨h.os, h.tape, h.output, Nat.le_trans (by simp) h.size, fun k hk _ => (h.block k (by simp; omega) (by simp; omega)).trans (Below.heap_alloc _ _ _ hk)⟩
theorem below_of_grown {w w' : World} (h : w.grownBy w' none) : Below w.heap.size w w' := ⟨h.os, h.tape, h.output, h.size, fun k hk => h.block k hk (by simp)⟩
theorem o_base {W : World} {B B' e z n : Nat} {v : Value} {xs : List Value} (h : W.ownsRow B e z v n xs) (hB : B' ≤ B) : W.ownsRow B' e z v n xs := by
  refine ⟨h.1, ?_⟩
  rcases h.2 with hn | ⟨g, cap, cur, hv, hb, rest⟩
  · exact .inl hn
  · exact .inr ⟨g, cap, cur, hv, by omega, rest⟩

/-- What Scan hands back. -/
def ScanIs (s : ByteArray) (w : World) (e : Ending) (w' : World) : Prop :=
  Below w.heap.size w w' ∧ match scanL s.data.toList with
    | .bad a n => e = .returned (.tuple #[.slice none 0 0, .int .i64 (a : Int), .int .i64 (n : Int)])
    | .ok l => ∃ v, e = .returned (.tuple #[v, .int .i64 0, .int .i64 0]) ∧ w'.ownsRow w.heap.size 71 5 v l.length (tokCells l) ∧ (l = [] → v = .slice none 0 0) ∧ l.length ≤ 65536

/-- What Scan keeps, round by round. -/
structure ScanW (s : ByteArray) (k : Nat) (w W : World) (v : Value) (done : List TP') : Prop where
  hx : IsText w.heap.size s k W
  hk : k ≤ s.size
  hs : skipR false (s.data.toList.drop k) = s.data.toList.drop k
  ho : W.ownsRow (w.heap.size + 1) 71 5 v done.length (tokCells done)
  hz : done = [] → v = .slice none 0 0
  hn : done.length ≤ k
  hg : w.grownBy W none
  he : ErrW W
  hq : scanT s.size s.data.toList = (scanT s.size (s.data.toList.drop k)).app done

set_option maxRecDepth 100000 in
set_option maxHeartbeats 8000000 in
theorem scan_calls (s : ByteArray) (w : World) (hs : s.size ≤ 9223372036854775807) (hE : ErrW w) :
    Calls Tryz.prog 58 #[.string s] w (ScanIs s w) := by
  have hls : s.data.toList.length = s.size := by simp
  by_cases hbig : 65536 < s.size
  · have hd : decide (65536 < (s.size : Int)) = true := decide_eq_true (by omega)
    have HQ := Lib.hid (show scanL s.data.toList = .bad 0 4 from if_pos (by omega))
    clear hls hbig
    go_enter Tryz.func58, Tryz.ntmps58
    go_wp2_with fail
    refine bodyPost_ret (v := .tuple #[.slice none 0 0, .int .i64 0, .int .i64 4]) (by simp [results, Tryz.results58, go_sem]) rfl ⟨Below.refl _ _, ?_⟩
    rw [HQ.out]
    rfl
  · have hd : decide (65536 < (s.size : Int)) = false := decide_eq_false (by omega)
    have hs2 : s.size ≤ 65536 := by omega
    have HSL := Lib.hid (show scanL s.data.toList = scanT s.size s.data.toList by
      unfold scanL scanT
      rw [if_neg (by omega), hls])
    have HX := Lib.hid (show IsText w.heap.size s 0 (w.alloc (.cells #[.string s, .int .i64 0] 137)) from heap_alloc_new w _)
    have HE := Lib.hid (hE.below ((Below.refl w.heap.size w).alloc (Nat.le_refl _) (.cells #[.string s, .int .i64 0] 137)))
    have HE0 := Lib.hid hE
    clear hls hE hbig
    go_enter Tryz.func58, Tryz.ntmps58
    go_wp2_with (go_at_call 92; ((with_reducible refine (skip_calls _ s 0 _ HX.out (Nat.zero_le _) hs2).mono ?_); rintro e w1 ⟨rfl, b, _, hb, hsk, ht1, hg1⟩; have HSK := Lib.hid hsk; have HB := Lib.hid hb; have HT1 := Lib.hid ht1; have HG1 := Lib.hid hg1; clear hsk hb ht1 hg1))
    have hb := HB.out
    go_loopw [5] (fun v wr => ∃ k done, ScanW s k w wr v done) (fun _ wr => s.size - textAt w.heap.size wr)
    case atStart =>
      refine ⟨b, [], ⟨HT1.out, HB.out, ?_, World.ownsRow_nil _ _ _ _, fun _ => rfl, Nat.zero_le _, ?_, HE.out.grown HX.out HG1.out, ?_⟩⟩
      · rw [HSK.out, skip_idem]
      · exact grown_strip HG1.out
      · rw [HSK.out, List.drop_zero, scanT_skip, app_nil]
    case round =>
      obtain ⟨k, done, hW⟩ := hrel
      obtain ⟨A, c, rfl⟩ := o_slice hW.ho
      have HW := Lib.hid hW
      have c0 := hW.hx.cell0
      have c1 := hW.hx.cell1
      clear hW hb
      by_cases hkl : k < s.size
      · have hdk : decide ((k : Int) < (s.size : Int)) = true := decide_eq_true (by omega)
        have hstay := HW.out.hs
        rw [drop_at hkl] at hstay
        cases ho : oneL s[k] (s.data.toList.drop (k + 1)) with
        | bad m =>
          have HO := Lib.hid ho
          have hm : ((m : Int) == 0) = false := by
            have := oneL_bad ho
            simp
            omega
          have HF := Lib.hid (show scanL s.data.toList = .bad k m by
            rw [HSL.out, HW.out.hq, scanT_bad _ _ s[k] (s.data.toList.drop (k + 1)) m (by rw [drop_at hkl]; exact hstay) ho]
            simp [Scan.app]
            omega)
          clear hstay ho
          go_wp2_with (go_at_call 93; ((with_reducible refine (one_calls _ s k _ HW.out.hx hkl hs2 HW.out.he).mono ?_); rintro e w2 ho2; rw [HO.out] at ho2; obtain ⟨kk, tt, nn, qq, er, rfl, hg2, hv⟩ := ho2.cells; obtain ⟨rfl, rfl, rfl, rfl, rfl, _⟩ := hv; have HG2 := Lib.hid hg2; clear hg2 ho2))
          refine bodyPost_ret (v := .tuple #[.slice none 0 0, .int .i64 (k : Int), .int .i64 (m : Int)]) (by simp [results, Tryz.results58, go_sem]) rfl ⟨below_of_grown (grown_trans (o_grown HW.out.hg HG2.out (fun j hj => by cases hj; exact Nat.le_refl _)) (World.grownBy_alloc _ _ _)), ?_⟩
          rw [HF.out]
        | tok u r =>
          have HO := Lib.hid ho
          have HF := Lib.hid (show scanT s.size s.data.toList = (scanT s.size r).app (done ++ [(u, k)]) by
            rw [HW.out.hq, scanT_tok _ _ s[k] (s.data.toList.drop (k + 1)) u r (by rw [drop_at hkl]; exact hstay) ho, app_cons]
            have e : s.size - (s[k] :: s.data.toList.drop (k + 1)).length = k := by simp; omega
            rw [e])
          have HLEN := Lib.hid (show r.length < s.size - k by
            have := oneL_lt _ _ _ _ ho
            simp at this
            omega)
          clear hstay ho
          go_wp2_with (first
            | (go_at_call 93; ((with_reducible refine (one_calls _ s k _ HW.out.hx hkl hs2 HW.out.he).mono ?_); rintro e w2 ho2; rw [HO.out] at ho2; obtain ⟨kk, tt, nn, qq, er, rfl, hg2, hv⟩ := ho2.cells; obtain ⟨rfl, rfl, rfl, rfl, rfl, b2, hb2, hr2, ht2⟩ := hv; have HG2 := Lib.hid hg2; have HB2 := Lib.hid hb2; have HR2 := Lib.hid hr2; have HT2 := Lib.hid ht2; clear hg2 ho2 hb2 hr2 ht2))
            | (at_builtin; refine RowKit.Hid.out ?_))
          refine Lib.hid ?_
          have hXne : some w.heap.size ≠ Value.ownBlock (.slice A done.length c) := fun e => by have := o_from HW.out.ho _ e.symm; omega
          have HGA := Lib.hid (grown_trans HG2.out (World.grownBy_alloc w2 (.cells #[.int .i64 (u.k : Int), .string ⟨u.s.toArray⟩, .int .i64 u.n, .bool u.q, .int .i64 (k : Int)] 71) (some w.heap.size)))
          refine o_app (W := w2.alloc (.cells #[.int .i64 (u.k : Int), .string ⟨u.s.toArray⟩, .int .i64 u.n, .bool u.q, .int .i64 (k : Int)] 71)) rfl (.tmp 42) (.tmp 44) 64 71 rfl (.agg #[.int .i64 0, .string ⟨#[]⟩, .int .i64 0, .bool false, .int .i64 0]) 5 48 Tryz.underlying64 tok_info rfl (by decide) (by decide) #[.int .i64 (u.k : Int), .string ⟨u.s.toArray⟩, .int .i64 u.n, .bool u.q, .int .i64 (k : Int)] rfl (by intro v hv; simp at hv; rcases hv with rfl | rfl | rfl | rfl | rfl <;> rfl) (.slice A done.length c) done.length (tokCells done) (by rfl) (o_keep HW.out.ho HGA.out (by omega)) (by simp; rfl) (by have := HW.out.hn; have := HW.out.hk; omega) (by have := HGA.out.size; have := HW.out.hx.lt; omega) ?_
          intro A2 c2 W3 ho3 hg3
          have HG3 := Lib.hid hg3
          have HO3 := Lib.hid (show W3.ownsRow (w.heap.size + 1) 71 5 (.slice A2 (done.length + 1) c2) (done.length + 1) (tokCells (done ++ [(u, k)])) by rw [tokCells_snoc]; exact ho3)
          have HT3 := Lib.hid ((HT2.out.grown (World.grownBy_alloc w2 (.cells #[.int .i64 (u.k : Int), .string ⟨u.s.toArray⟩, .int .i64 u.n, .bool u.q, .int .i64 (k : Int)] 71) none) (by simp)).grown hg3 hXne)
          have HGW := Lib.hid (o_grown (o_grown HW.out.hg HGA.out (fun j hj => by cases hj; exact Nat.le_refl _)) hg3 (fun j hj => by have := o_from HW.out.ho _ hj; omega))
          have HBK := Lib.hid (show k < b2 by
            have h1 := HLEN.out
            have h2 := congrArg List.length HR2.out
            simp at h2
            omega)
          clear ho3 hg3
          go_wp2_with (go_at_call 92; ((with_reducible refine (skip_calls _ s b2 _ HT3.out HB2.out hs2).mono ?_); rintro e w4 ⟨rfl, b4, hb24, hb4, hsk, ht4, hg4⟩; have HSK := Lib.hid hsk; have HB4 := Lib.hid hb4; have HB24 := Lib.hid hb24; have HT4 := Lib.hid ht4; have HG4 := Lib.hid hg4; clear hsk hb4 hb24 ht4 hg4))
          go_roundw
          case rel =>
            refine ⟨b4, done ++ [(u, k)], ⟨HT4.out, HB4.out, by rw [HSK.out, skip_idem], ?_, fun e => by simp at e, ?_, ?_, HE0.out.below (below_of_grown (o_grown HGW.out HG4.out (fun j hj => by cases hj; exact Nat.le_refl _))), ?_⟩⟩
            · rw [List.length_append, List.length_singleton]
              exact o_keep HO3.out HG4.out (by omega)
            · have h1 := HBK.out
              have h2 := HB24.out
              have h3 := HW.out.hn
              simp
              omega
            · exact o_grown HGW.out HG4.out (fun j hj => by cases hj; exact Nat.le_refl _)
            · rw [HF.out, HSK.out, scanT_skip, HR2.out]
          case measure =>
            have h1 := HBK.out
            have h2 := HB24.out
            rw [HT4.out.textAt, HW.out.hx.textAt]
            omega
      · have hdk : decide ((k : Int) < (s.size : Int)) = false := decide_eq_false (by omega)
        have HF := Lib.hid (show scanL s.data.toList = .ok done by
          rw [HSL.out, HW.out.hq, drop_end (by omega), scanT_nil _ _ rfl]
          simp [Scan.app])
        go_wp2_with fail
        refine bodyPost_ret (v := .tuple #[.slice A done.length c, .int .i64 0, .int .i64 0]) (by simp [results, Tryz.results58, go_sem]) rfl ⟨below_of_grown HW.out.hg, ?_⟩
        rw [HF.out]
        exact ⟨_, rfl, o_base HW.out.ho (Nat.le_succ _), HW.out.hz, by have := HW.out.hn; have := HW.out.hk; omega⟩
end Go.Proofs.YtminbdcabacfbaaGreatDoor.V

namespace Go.Proofs.YtminbdcabacfbaaGreatDoor.V
set_option linter.unusedVariables false
set_option linter.unusedSimpArgs false
open Go.RowKit

def bs (l : List UInt8) : ByteArray := ⟨l.toArray⟩
theorem bs_list (l : List UInt8) : (bs l).toList = l := by
  rw [ByteArray.toList_eq]
  rfl
/-- A row's cells. -/
theorem o_at {W : World} {B e z n : Nat} {A : Option Addr} {c : Nat} {xs : List Value} (h : W.ownsRow B e z (.slice A n c) n xs) (hn : 0 < n) : ∃ g, A = some ⟨g, 0, none⟩ ∧ ∀ j u, xs[j]? = some u → W.cell? ⟨g, j, none⟩ = some u := by
  rcases h.2 with ⟨_, h0⟩ | ⟨g, cap, cur, hv, _, hk, _, _, _, hcur⟩
  · omega
  · injection hv with hA _ _
    refine ⟨g, hA, fun j u hu => ?_⟩
    have hlt := (List.getElem?_eq_some_iff.1 hu).1
    rw [cell_of_row W g j cur _ _ hk]
    rw [← hcur, List.getElem?_take_of_lt (by rw [← h.1]; exact hlt)] at hu
    simpa using hu

theorem flat_at {α : Type} (f : α → List Value) (z : Nat) (hz : ∀ x, (f x).length = z) : ∀ (l : List α) (m j : Nat) (p : α), l[m]? = some p → j < z → (l.flatMap f)[m * z + j]? = (f p)[j]? := by
  intro l
  induction l with
  | nil => intro m j p h; simp at h
  | cons x l ih =>
    intro m j p h hj
    rw [List.flatMap_cons]
    match m with
    | 0 =>
      simp at h
      subst h
      rw [Nat.zero_mul, Nat.zero_add, List.getElem?_append_left (by rw [hz]; exact hj)]
    | m + 1 =>
      rw [List.getElem?_append_right (by rw [hz, Nat.succ_mul]; omega), ← ih m j p (by simpa using h) hj]
      congr 1
      rw [hz, Nat.succ_mul]
      omega
/-- A row's cells of one of its things. -/
theorem flat_row {α : Type} (f : α → List Value) {z : Nat} (hz : ∀ x, (f x).length = z) {W : World} {B e n : Nat} {A : Option Addr} {c : Nat} {l : List α} (h : W.ownsRow B e z (.slice A n c) n (l.flatMap f)) (hn : n = l.length) {m : Nat} {p : α} (hm : l[m]? = some p) :
    ∃ g, A = some ⟨g, 0, none⟩ ∧ ∀ j u, j < z → (f p)[j]? = some u → W.cell? ⟨g, m * z + j, none⟩ = some u := by
  have hlt := (List.getElem?_eq_some_iff.1 hm).1
  obtain ⟨g, hA, hc⟩ := o_at h (by omega)
  exact ⟨g, hA, fun j u hj hu => hc _ u (by rw [flat_at f z hz l m j p hm hj]; exact hu)⟩

theorem o_kb {W W' : World} {B e z n : Nat} {v : Value} {xs : List Value} (h : W.ownsRow B e z v n xs) (hb : Below W.heap.size W W') : W'.ownsRow B e z v n xs := h.kept (row := none) ⟨hb.os, hb.tape, hb.output, hb.size, fun k hk _ => hb.block k hk⟩ (by cases hv : v.ownBlock <;> simp)
end Go.Proofs.YtminbdcabacfbaaGreatDoor.V

namespace Go.Proofs.YtminbdcabacfbaaGreatDoor.V
set_option linter.unusedVariables false
set_option linter.unusedSimpArgs false
open Go.RowKit

def tokA (t : Tok) (a : Nat) : Value := .agg #[.int .i64 (t.k : Int), .string (bs t.s), .int .i64 t.n, .bool t.q, .int .i64 (a : Int)]

/-- The parser's block, its tokens beside it. -/
structure PS (P : Nat) (L : List TP) (N nx : Nat) (pl bad : Int) (A : Option Addr) (c : Nat) (W : World) : Prop where
  b : W.heap[P]? = some (.cells #[.slice A L.length c, .int .i64 (nx : Int), .int .i64 (N : Int), .int .i64 pl, .int .i64 bad] 68 (0, 0))
  o : W.ownsRow 0 71 5 (.slice A L.length c) L.length (tokCells L)
  n : L.length ≤ 65536
  s : N ≤ 65536
  x : nx ≤ 1000000
section
variable {P : Nat} {L : List TP} {N nx : Nat} {pl bad : Int} {A : Option Addr} {c : Nat} {W W' : World}
theorem PS.c0 (h : PS P L N nx pl bad A c W) : W.cell? ⟨P, 0, none⟩ = some (.slice A L.length c) := cell_of_row W P 0 _ _ _ h.b
theorem PS.c1 (h : PS P L N nx pl bad A c W) : W.cell? ⟨P, 1, none⟩ = some (.int .i64 (nx : Int)) := cell_of_row W P 1 _ _ _ h.b
theorem PS.c2 (h : PS P L N nx pl bad A c W) : W.cell? ⟨P, 2, none⟩ = some (.int .i64 (N : Int)) := cell_of_row W P 2 _ _ _ h.b
theorem PS.c3 (h : PS P L N nx pl bad A c W) : W.cell? ⟨P, 3, none⟩ = some (.int .i64 pl) := cell_of_row W P 3 _ _ _ h.b
theorem PS.c4 (h : PS P L N nx pl bad A c W) : W.cell? ⟨P, 4, none⟩ = some (.int .i64 bad) := cell_of_row W P 4 _ _ _ h.b
theorem PS.fr (h : PS P L N nx pl bad A c W) (i : Nat) : W.frozen? ⟨P, i, none⟩ = false := frozen_of_row W P i _ _ h.b
theorem PS.lt (h : PS P L N nx pl bad A c W) : P < W.heap.size := (Array.getElem?_eq_some_iff.1 h.b).1
theorem PS.ne (h : PS P L N nx pl bad A c W) : some P ≠ Value.ownBlock (.slice A L.length c) := by
  intro he
  rcases h.o.2 with ⟨hv, _⟩ | ⟨g, cap, cur, hv, _, hk, _⟩
  · rw [hv] at he
    cases he
  · rw [hv] at he
    have : P = g := Option.some.inj he
    subst this
    have hb := h.b
    rw [hk] at hb
    simp at hb
theorem PS.grown {row : Option Nat} (h : PS P L N nx pl bad A c W) (hg : W.grownBy W' row) (h1 : some P ≠ row) (h2 : Value.ownBlock (.slice A L.length c) ≠ row) : PS P L N nx pl bad A c W' :=
  ⟨(hg.block P h.lt h1).trans h.b, h.o.kept hg (.inr h2), h.n, h.s, h.x⟩
theorem PS.below (h : PS P L N nx pl bad A c W) (hb : Below W.heap.size W W') : PS P L N nx pl bad A c W' :=
  ⟨(hb.block P h.lt).trans h.b, h.o.kept (grown_below hb none) (by cases A <;> simp [Value.ownBlock]), h.n, h.s, h.x⟩
theorem PS.setNext (h : PS P L N nx pl bad A c W) (m : Nat) (hm : m ≤ 1000000) : PS P L N m pl bad A c (W.setCell ⟨P, 1, none⟩ (.int .i64 (m : Int))) :=
  ⟨set_block h.b _, h.o.kept (grown_set (World.grownBy.refl W (some P)) 1 _) (.inr (Ne.symm h.ne)), h.n, h.s, hm⟩
theorem PS.setBad (h : PS P L N nx pl bad A c W) (a e : Int) : PS P L N nx a e A c ((W.setCell ⟨P, 3, none⟩ (.int .i64 a)).setCell ⟨P, 4, none⟩ (.int .i64 e)) :=
  ⟨set_block (set_block h.b _) _, h.o.kept (grown_set (grown_set (World.grownBy.refl W (some P)) 3 _) 4 _) (.inr (Ne.symm h.ne)), h.n, h.s, h.x⟩
end
theorem PS.old {P T : Nat} {L : List TP} {N nx : Nat} {pl bad : Int} {A : Option Addr} {c : Nat} {W : World} (h : PS P L N nx pl bad A c W) (hA : some T = Value.ownBlock (.slice A L.length c)) : T < W.heap.size := (h.o.lt T hA.symm).2
/-- Another block's turn, of another type. -/
theorem PS.tokSet {P T : Nat} {L : List TP} {N nx : Nat} {pl bad : Int} {A : Option Addr} {c : Nat} {W : World} (h : PS P L N nx pl bad A c W) (hne : P ≠ T) (hA : some T ≠ Value.ownBlock (.slice A L.length c)) (u0 u1 u2 u3 u4 : Value) : PS P L N nx pl bad A c (V.tokSet T u0 u1 u2 u3 u4 W) :=
  h.grown (row := some T) (grown_set (grown_set (grown_set (grown_set (grown_set (World.grownBy.refl W (some T)) _ _) _ _) _ _) _ _) _ _) (by simpa using hne) (Ne.symm hA)
theorem tokCells_at (L : List TP) : ∀ (m j : Nat) (p : TP), L[m]? = some p → j < 5 → (tokCells L)[m * 5 + j]? = (tokC p)[j]? := by
  induction L with
  | nil => intro m j p h; simp at h
  | cons x l ih =>
    intro m j p h hj
    unfold tokCells
    rw [List.flatMap_cons]
    match m with
    | 0 =>
      simp at h
      subst h
      rw [Nat.zero_mul, Nat.zero_add, List.getElem?_append_left (by simp [tokC]; omega)]
    | m + 1 =>
      rw [List.getElem?_append_right (by simp [tokC]; omega)]
      have := ih m j p (by simpa using h) hj
      unfold tokCells at this
      rw [← this]
      congr 1
      simp [tokC]
      omega
theorem pk_in {N : Nat} {L : List TP} {nx i : Nat} {t : Tok} {a : Nat} (hp : pk N (L.drop nx) i = (t, a)) (h : nx + i < L.length) : L[nx + i]? = some (t, a) := by
  unfold pk at hp
  rw [List.getElem?_drop, List.getElem?_eq_getElem h] at hp
  rw [List.getElem?_eq_getElem h]
  simpa using hp
theorem pk_out {N : Nat} {L : List TP} {nx i : Nat} (h : L.length ≤ nx + i) : pk N (L.drop nx) i = eofT N := by
  unfold pk
  rw [List.getElem?_drop, List.getElem?_eq_none h]
  rfl
theorem PS.row {P : Nat} {L : List TP} {N nx : Nat} {pl bad : Int} {A : Option Addr} {c : Nat} {W : World} (h : PS P L N nx pl bad A c W) {m : Nat} {t : Tok} {a : Nat} (hm : L[m]? = some (t, a)) :
    ∃ g, A = some ⟨g, 0, none⟩ ∧ W.cell? ⟨g, m * 5, none⟩ = some (.int .i64 (t.k : Int)) ∧ W.cell? ⟨g, m * 5 + 1, none⟩ = some (.string (bs t.s)) ∧ W.cell? ⟨g, m * 5 + 2, none⟩ = some (.int .i64 t.n) ∧ W.cell? ⟨g, m * 5 + 3, none⟩ = some (.bool t.q) ∧ W.cell? ⟨g, m * 5 + 4, none⟩ = some (.int .i64 (a : Int)) := by
  have ho := h.o
  have hlt : m < L.length := (List.getElem?_eq_some_iff.1 hm).1
  rcases ho.2 with ⟨hv, h0⟩ | ⟨g, cap, cur, hv, _, hk, _, _, _, hcur⟩
  · omega
  · have hA : A = some ⟨g, 0, none⟩ := by injection hv
    refine ⟨g, hA, ?_⟩
    have key : ∀ j u, j < 5 → (tokC (t, a))[j]? = some u → W.cell? ⟨g, m * 5 + j, none⟩ = some u := by
      intro j u hj hu
      rw [cell_of_row W g (m * 5 + j) cur _ _ hk]
      have h2 : cur[m * 5 + j]? = (tokCells L)[m * 5 + j]? := by
        rw [← hcur, List.getElem?_take_of_lt (by omega)]
        simp
      rw [h2, tokCells_at L m j _ hm hj]
      exact hu
    exact ⟨key 0 _ (by omega) rfl, key 1 _ (by omega) rfl, key 2 _ (by omega) rfl, key 3 _ (by omega) rfl, key 4 _ (by omega) rfl⟩

set_option maxRecDepth 100000 in
theorem peek_calls {P : Nat} {L : List TP} {N nx : Nat} {pl bad : Int} {A : Option Addr} {c : Nat} (i : Nat) (t : Tok) (a : Nat) (w : World) (h : PS P L N nx pl bad A c w) (hi : i ≤ 1) (hp : pk N (L.drop nx) i = (t, a)) :
    Calls Tryz.prog 36 #[.pointer (some ⟨P, 0, none⟩), .int .i64 (i : Int)] w fun e w' => e = .returned (tokA t a) ∧ Below w.heap.size w w' := by
  have hg0 := World.grownBy_alloc w (.cells #[.int .i64 0, .string ⟨#[]⟩, .int .i64 0, .bool false, .int .i64 0] 71) none
  have hx := h.x
  have hn := h.n
  have h2 := h.below (below_of_grown hg0)
  have c0 := h2.c0
  have c1 := h2.c1
  have c2 := h2.c2
  have HB := Lib.hid (below_of_grown hg0)
  by_cases hlt : nx + i < L.length
  · have hd : decide ((L.length : Int) ≤ (nx : Int) + (i : Int)) = false := decide_eq_false (by omega)
    obtain ⟨g, rfl, r0, r1, r2, r3, r4⟩ := h2.row (pk_in hp hlt)
    clear h h2 hp hg0
    go_enter Tryz.func36, Tryz.ntmps36
    go_wp2_with fail
    go_region
    go_wp2_with fail
    go_region
    go_wp2_with fail
    refine bodyPost_ret (v := tokA t a) (by simp [results, Tryz.results36, go_sem, tokA]) rfl ⟨rfl, ?_⟩
    exact ((Below.refl w.heap.size w).alloc (Nat.le_refl _) _).drew.drew
  · have hd : decide ((L.length : Int) ≤ (nx : Int) + (i : Int)) = true := decide_eq_true (by omega)
    have HP := Lib.hid (show (t, a) = eofT N by rw [← hp, pk_out (by omega)])
    clear h h2 hp hg0
    go_enter Tryz.func36, Tryz.ntmps36
    go_wp2_with fail
    go_region
    go_wp2_with fail
    refine bodyPost_ret (v := tokA (eofT N).1 (eofT N).2) (by simp [results, Tryz.results36, go_sem, tokA, eofT, bs]) rfl ⟨?_, ?_⟩
    · rw [← HP.out]
    exact ((Below.refl w.heap.size w).alloc (Nat.le_refl _) _).drew
theorem peek0_calls {P : Nat} {L : List TP} {N nx : Nat} {pl bad : Int} {A : Option Addr} {c : Nat} (t : Tok) (a : Nat) (w : World) (h : PS P L N nx pl bad A c w) (hp : pk N (L.drop nx) 0 = (t, a)) :
    Calls Tryz.prog 36 #[.pointer (some ⟨P, 0, none⟩), .int .i64 0] w fun e w' => e = .returned (.agg #[.int .i64 (t.k : Int), .string (bs t.s), .int .i64 t.n, .bool t.q, .int .i64 (a : Int)]) ∧ Below w.heap.size w w' := peek_calls 0 t a w h (by omega) hp
theorem peek1_calls {P : Nat} {L : List TP} {N nx : Nat} {pl bad : Int} {A : Option Addr} {c : Nat} (t : Tok) (a : Nat) (w : World) (h : PS P L N nx pl bad A c w) (hp : pk N (L.drop nx) 1 = (t, a)) :
    Calls Tryz.prog 36 #[.pointer (some ⟨P, 0, none⟩), .int .i64 1] w fun e w' => e = .returned (.agg #[.int .i64 (t.k : Int), .string (bs t.s), .int .i64 t.n, .bool t.q, .int .i64 (a : Int)]) ∧ Below w.heap.size w w' := peek_calls 1 t a w h (by omega) hp

set_option maxRecDepth 100000 in
theorem take_calls {P : Nat} {L : List TP} {N nx : Nat} {pl bad : Int} {A : Option Addr} {c : Nat} (t : Tok) (a : Nat) (w : World) (h : PS P L N nx pl bad A c w) (hx : nx + 1 ≤ 1000000) (hp : pk N (L.drop nx) 0 = (t, a)) :
    Calls Tryz.prog 61 #[.pointer (some ⟨P, 0, none⟩)] w fun e w' => e = .returned (tokA t a) ∧ PS P L N (nx + 1) pl bad A c w' ∧ w.grownBy w' (some P) := by
  have h1 := h.below ((Below.refl w.heap.size w).alloc (Nat.le_refl _) (.cells #[.int .i64 0, .string ⟨#[]⟩, .int .i64 0, .bool false, .int .i64 0] 71))
  have hK := IsTok.new (v0 := .int .i64 0) (v1 := .string ⟨#[]⟩) (v2 := .int .i64 0) (v3 := .bool false) (v4 := .int .i64 0) w
  have H1 := Lib.hid h1
  have H0 := Lib.hid h
  have HK := Lib.hid hK
  have HLT := Lib.hid h.lt
  clear h h1 hK
  go_enter Tryz.func61, Tryz.ntmps61
  go_wp2_with (go_at_call 36; ((with_reducible refine (peek0_calls t a _ H1.out hp).mono ?_); rintro e w1 ⟨rfl, hb⟩; have h1 := H1.out.below hb; have h2 := h1.below ((Below.refl w1.heap.size w1).alloc (Nat.le_refl _) (.cells #[.int .i64 (t.k : Int), .string (bs t.s), .int .i64 t.n, .bool t.q, .int .i64 (a : Int)] 71)); have c1 := h2.c1; have f1 := h2.fr 1; have HB := Lib.hid hb; have hk := HK.out.grown (grown_below hb none) (by simp); have HK1 := Lib.hid hk; have HH1 := Lib.hid h1; have hS := grown_set (World.grownBy.refl (w1.alloc (.cells #[.int .i64 (t.k : Int), .string (bs t.s), .int .i64 t.n, .bool t.q, .int .i64 (a : Int)] 71)) (some P)) 1 (.int .i64 ((nx : Int) + 1)); have hn2 := (IsTok.new (v0 := .int .i64 (t.k : Int)) (v1 := .string (bs t.s)) (v2 := .int .i64 t.n) (v3 := .bool t.q) (v4 := .int .i64 (a : Int)) w1).grown hS (by have := h1.lt; simp; omega); have n0 := hn2.c0; have n1 := hn2.c1; have n2 := hn2.c2; have n3 := hn2.c3; have n4 := hn2.c4; have hk2 := (hk.grown (World.grownBy_alloc _ (.cells #[.int .i64 (t.k : Int), .string (bs t.s), .int .i64 t.n, .bool t.q, .int .i64 (a : Int)] 71) none) (by simp)).grown hS (by have := HLT.out; simp; omega); have HK2 := Lib.hid hk2; have k0 := hk2.c0; have k1 := hk2.c1; have k2 := hk2.c2; have k3 := hk2.c3; have k4 := hk2.c4; have l0 := hk2.fr 0; have l1 := hk2.fr 1; have l2 := hk2.fr 2; have l3 := hk2.fr 3; have l4 := hk2.fr 4; clear hb h1 hk h2 hk2 hn2 hS))
  have hset := HK2.out.set (.int .i64 (t.k : Int)) (.string (bs t.s)) (.int .i64 t.n) (.bool t.q) (.int .i64 (a : Int))
  have r0 := hset.c0; have r1 := hset.c1; have r2 := hset.c2; have r3 := hset.c3; have r4 := hset.c4
  have HP1 := HH1.out.below ((Below.refl w1.heap.size w1).alloc (Nat.le_refl _) (.cells #[.int .i64 (t.k : Int), .string (bs t.s), .int .i64 t.n, .bool t.q, .int .i64 (a : Int)] 71))
  refine bodyPost_ret (v := tokA t a) (by simp [results, Tryz.results61, go_sem, r0, r1, r2, r3, r4, tokA]) rfl ⟨rfl, (HP1.setNext (nx + 1) hx).tokSet (by have := HLT.out; omega) ?_ _ _ _ _ _, ?_⟩
  · exact fun he => Nat.lt_irrefl _ (H0.out.old he)
  · exact grown_tokSet (grown_set (grown_trans (World.grownBy_alloc _ _ _) (grown_trans (grown_below HB.out _) (World.grownBy_alloc _ _ _))) _ _) (Nat.le_refl _) _ _ _ _ _

set_option maxRecDepth 100000 in
theorem is_calls {P : Nat} {L : List TP} {N nx : Nat} {pl bad : Int} {A : Option Addr} {c : Nat} (mb : ByteArray) (v : Bool) (w : World) (h : PS P L N nx pl bad A c w) (hv : isM N (L.drop nx) 0 mb.data.toList = v) :
    Calls Tryz.prog 60 #[.pointer (some ⟨P, 0, none⟩), .string mb] w fun e w' => e = .returned (.bool v) ∧ Below w.heap.size w w' := by
  obtain ⟨⟨t, a⟩, hp⟩ : ∃ p, pk N (L.drop nx) 0 = p := ⟨_, rfl⟩
  unfold isM at hv
  rw [hp] at hv
  have H := Lib.hid h
  have HV := Lib.hid hv
  clear h hv
  cases hk : ((t.k : Int) == 4) with
  | false =>
    have HK := Lib.hid (show (t.k == 4) = false by cases h4 : (t.k == 4) with
      | false => rfl
      | true => simp at h4 hk; omega)
    go_enter Tryz.func60, Tryz.ntmps60
    go_wp2_with (go_at_call 36; ((with_reducible refine (peek0_calls t a _ H.out hp).mono ?_); rintro e w1 ⟨rfl, hb⟩; have HB := Lib.hid hb; clear hb))
    go_ret
    exact ⟨by rw [← HV.out, HK.out]; rfl, HB.out.alloc HB.out.size _⟩
  | true =>
    have HK := Lib.hid (show (t.k == 4) = true by simp at hk ⊢; omega)
    cases hs : ((bs t.s).toList == mb.toList) with
    | false =>
      have HS := Lib.hid (show (t.s == mb.data.toList) = false by rw [← ByteArray.toList_eq, ← bs_list t.s]; exact hs)
      go_enter Tryz.func60, Tryz.ntmps60
      go_wp2_with (go_at_call 36; ((with_reducible refine (peek0_calls t a _ H.out hp).mono ?_); rintro e w1 ⟨rfl, hb⟩; have HB := Lib.hid hb; clear hb))
      go_ret
      exact ⟨by rw [← HV.out, HK.out, HS.out]; rfl, HB.out.alloc HB.out.size _⟩
    | true =>
      have HS := Lib.hid (show (t.s == mb.data.toList) = true by rw [← ByteArray.toList_eq, ← bs_list t.s]; exact hs)
      go_enter Tryz.func60, Tryz.ntmps60
      go_wp2_with (go_at_call 36; ((with_reducible refine (peek0_calls t a _ H.out hp).mono ?_); rintro e w1 ⟨rfl, hb⟩; have HB := Lib.hid hb; clear hb))
      go_ret
      exact ⟨by rw [← HV.out, HK.out, HS.out]; rfl, HB.out.alloc HB.out.size _⟩
theorem pok_calls {P : Nat} {L : List TP} {N nx : Nat} {pl bad : Int} {A : Option Addr} {c : Nat} (v : Bool) (w : World) (h : PS P L N nx pl bad A c w) (hv : (bad == 0) = v) :
    Calls Tryz.prog 33 #[.pointer (some ⟨P, 0, none⟩)] w fun e w' => e = .returned (.bool v) ∧ w = w' := by
  have c4 := h.c4
  clear h
  cases v
  all_goals
    go_enter Tryz.func33, Tryz.ntmps33
    go_wp2
    go_ret
    exact ⟨rfl, rfl⟩
theorem fail_bad_calls {P : Nat} {L : List TP} {N nx : Nat} {pl bad : Int} {A : Option Addr} {c : Nat} (K : Int) (sb : ByteArray) (n : Int) (q : Bool) (a : Int) (e0 : Int) (w : World) (h : PS P L N nx pl bad A c w) (hv : (bad == 0) = false) :
    Calls Tryz.prog 35 #[.pointer (some ⟨P, 0, none⟩), .agg #[.int .i64 K, .string sb, .int .i64 n, .bool q, .int .i64 a], .int .i64 e0] w fun e w' => e = .returned (.tuple #[]) ∧ Below w.heap.size w w' := by
  have h2 := h.below ((Below.refl w.heap.size w).alloc (Nat.le_refl _) (.cells #[.int .i64 K, .string sb, .int .i64 n, .bool q, .int .i64 a] 71))
  have c4 := h2.c4
  clear h h2
  go_enter Tryz.func35, Tryz.ntmps35
  go_wp2_with fail
  go_end0
  exact ⟨rfl, (Below.refl w.heap.size w).alloc (Nat.le_refl _) _⟩
theorem fail_ok_calls {P : Nat} {L : List TP} {N nx : Nat} {pl : Int} {A : Option Addr} {c : Nat} (K : Int) (sb : ByteArray) (n : Int) (q : Bool) (a : Int) (e0 : Int) (w : World) (h : PS P L N nx pl 0 A c w) :
    Calls Tryz.prog 35 #[.pointer (some ⟨P, 0, none⟩), .agg #[.int .i64 K, .string sb, .int .i64 n, .bool q, .int .i64 a], .int .i64 e0] w fun e w' => e = .returned (.tuple #[]) ∧ PS P L N nx a e0 A c w' ∧ w.grownBy w' (some P) := by
  have h2 := h.below ((Below.refl w.heap.size w).alloc (Nat.le_refl _) (.cells #[.int .i64 K, .string sb, .int .i64 n, .bool q, .int .i64 a] 71))
  have c4 := h2.c4
  have c3 := h2.c3
  have f3 := h2.fr 3
  have f4 := h2.fr 4
  have H2 := Lib.hid h2
  clear h h2
  go_enter Tryz.func35, Tryz.ntmps35
  go_wp2_with fail
  go_end0
  exact ⟨rfl, H2.out.setBad _ _, grown_set (grown_set (World.grownBy_alloc _ _ _) _ _) _ _⟩
end Go.Proofs.YtminbdcabacfbaaGreatDoor.V

namespace Go.Proofs.YtminbdcabacfbaaGreatDoor.V
set_option linter.unusedVariables false
set_option linter.unusedSimpArgs false
open Go.RowKit

theorem takeA_calls {P : Nat} {L : List TP} {N nx : Nat} {pl bad : Int} {A : Option Addr} {c : Nat} (K : Int) (k : Nat) (s : List UInt8) (n : Int) (q : Bool) (a : Nat) (w : World) (h : PS P L N nx pl bad A c w) (hx : nx + 1 ≤ 1000000) (hp : pk N (L.drop nx) 0 = (⟨k, s, n, q⟩, a)) (hK : (k : Int) = K) :
    Calls Tryz.prog 61 #[.pointer (some ⟨P, 0, none⟩)] w fun e w' => e = .returned (.agg #[.int .i64 K, .string (bs s), .int .i64 n, .bool q, .int .i64 (a : Int)]) ∧ PS P L N (nx + 1) pl bad A c w' ∧ w.grownBy w' (some P) := by rw [← hK]; exact take_calls _ a w h hx hp

/-- All is well: what is left is r. -/
def PO (P : Nat) (L : List TP) (N : Nat) (A : Option Addr) (c : Nat) (r : List TP) (W : World) : Prop := ∃ nx, nx ≤ L.length ∧ L.drop nx = r ∧ PS P L N nx 0 0 A c W
/-- Something is wrong. -/
def PB (P : Nat) (L : List TP) (N : Nat) (A : Option Addr) (c : Nat) (a e m : Nat) (W : World) : Prop := e ≠ 0 ∧ ∃ nx, nx ≤ m ∧ PS P L N nx (a : Int) (e : Int) A c W
section
variable {P : Nat} {L : List TP} {N : Nat} {A : Option Addr} {c : Nat} {r : List TP} {W W' : World} {a e m m' : Nat}
theorem PO.below (h : PO P L N A c r W) (hb : Below W.heap.size W W') : PO P L N A c r W' := by
  obtain ⟨nx, h1, h2, h3⟩ := h
  exact ⟨nx, h1, h2, h3.below hb⟩
theorem PB.below (h : PB P L N A c a e m W) (hb : Below W.heap.size W W') : PB P L N A c a e m W' := by
  obtain ⟨h0, nx, h1, h3⟩ := h
  exact ⟨h0, nx, h1, h3.below hb⟩
theorem PB.mono (h : PB P L N A c a e m W) (hm : m ≤ m') : PB P L N A c a e m' W := by
  obtain ⟨h0, nx, h1, h3⟩ := h
  exact ⟨h0, nx, by omega, h3⟩
end
/-- The next token is one: there is another place. -/
theorem next_in {L : List TP} {N nx : Nat} {t : Tok} {a : Nat} (hp : pk N (L.drop nx) 0 = (t, a)) (hk : t.k ≠ 0) : nx < L.length := by
  by_cases h : nx < L.length
  · exact h
  · rw [pk_out (by omega)] at hp
    have : t = (eofT N).1 := by rw [hp]
    exact absurd (by rw [this]; rfl) hk

theorem k_yes {k n : Nat} {K m : Int} (hK : (k : Int) = K) (h : (K == m) = true) (hm : m = (n : Int)) : (k == n) = true := by
  simp at h ⊢
  omega
theorem k_no {k n : Nat} {K m : Int} (hK : (k : Int) = K) (h : (K == m) = false) (hm : m = (n : Int)) : (k == n) = false := by
  simp at h ⊢
  omega
/-- A state behind a step that may fail. -/
def PGot {α : Type} (P : Nat) (L : List TP) (N : Nat) (A : Option Addr) (c m : Nat) (g : Par α) (Q : α → Prop) (W : World) : Prop := match g with
  | .bad a e => PB P L N A c a e m W
  | .ok x r => Q x ∧ PO P L N A c r W

/-- A block of a term's five cells. -/
def IsTrm (T : Nat) (v0 v1 v2 v3 v4 : Value) (w : World) : Prop := w.heap[T]? = some (.cells #[v0, v1, v2, v3, v4] 45 (0, 0))
section
variable {T : Nat} {v0 v1 v2 v3 v4 : Value} {w : World}
theorem IsTrm.c0 (h : IsTrm T v0 v1 v2 v3 v4 w) : w.cell? ⟨T, 0, none⟩ = some v0 := cell_of_row w T 0 _ _ _ h
theorem IsTrm.c1 (h : IsTrm T v0 v1 v2 v3 v4 w) : w.cell? ⟨T, 1, none⟩ = some v1 := cell_of_row w T 1 _ _ _ h
theorem IsTrm.c2 (h : IsTrm T v0 v1 v2 v3 v4 w) : w.cell? ⟨T, 2, none⟩ = some v2 := cell_of_row w T 2 _ _ _ h
theorem IsTrm.c3 (h : IsTrm T v0 v1 v2 v3 v4 w) : w.cell? ⟨T, 3, none⟩ = some v3 := cell_of_row w T 3 _ _ _ h
theorem IsTrm.c4 (h : IsTrm T v0 v1 v2 v3 v4 w) : w.cell? ⟨T, 4, none⟩ = some v4 := cell_of_row w T 4 _ _ _ h
theorem IsTrm.fr (h : IsTrm T v0 v1 v2 v3 v4 w) (i : Nat) : w.frozen? ⟨T, i, none⟩ = false := frozen_of_row w T i _ _ h
theorem IsTrm.new (w : World) : IsTrm w.heap.size v0 v1 v2 v3 v4 (w.alloc (.cells #[v0, v1, v2, v3, v4] 45)) := heap_alloc_new w _
theorem IsTrm.grown {w' : World} {row : Option Nat} (h : IsTrm T v0 v1 v2 v3 v4 w) (hg : w.grownBy w' row) (hne : some T ≠ row) : IsTrm T v0 v1 v2 v3 v4 w' := (hg.block T (Array.getElem?_eq_some_iff.1 h).1 hne).trans h
theorem IsTrm.set {T : Nat} {v0 v1 v2 v3 v4 : Value} {w : World} (h : IsTrm T v0 v1 v2 v3 v4 w) (u0 u1 u2 u3 u4 : Value) : IsTrm T u0 u1 u2 u3 u4 (tokSet T u0 u1 u2 u3 u4 w) :=
  set_block (set_block (set_block (set_block (set_block h u0) u1) u2) u3) u4
end
def termA (x : TermL) : Value := .agg #[.bool x.v, .string (bs x.x), .bool x.s, .string (bs x.t), .int .i64 x.n]

-- THE WALKS
set_option maxRecDepth 100000 in
set_option maxHeartbeats 4000000 in
theorem name_calls {P : Nat} {L : List TP} {N : Nat} {A : Option Addr} {c : Nat} {r : List TP} (w : World) (h : PO P L N A c r w) (hmax : ∀ p ∈ L, p.1.s.length ≤ 65536) :
    Calls Tryz.prog 59 #[.pointer (some ⟨P, 0, none⟩)] w fun e w' => w.grownBy w' (some P) ∧ ∃ x, e = .returned (.string (bs x)) ∧ PGot P L N A c 65537 (nameP N r) (fun y => y = x) w' := by
  obtain ⟨nx, hnx, rfl, hS⟩ := h
  obtain ⟨⟨⟨k, s, n, q⟩, a⟩, hp⟩ : ∃ p, pk N (L.drop nx) 0 = p := ⟨_, rfl⟩
  obtain ⟨K, hK⟩ : ∃ K : Int, (k : Int) = K := ⟨_, rfl⟩
  have HK := Lib.hid hK
  have hn := hS.n
  have HN := Lib.hid hn
  have HNX := Lib.hid hnx
  have HS := Lib.hid (fun W (hb : Below w.heap.size w W) => hS.below hb)
  have HX := Lib.hid (show nx + 1 ≤ 1000000 by omega)
  have HP := Lib.hid hp
  have HM := Lib.hid (show (bs s).size ≤ maxLen by
    have : (bs s).size = s.length := by simp [bs, ByteArray.size]
    rw [this]
    by_cases hin : nx < L.length
    · have hm := List.mem_of_getElem? (pk_in hp hin)
      have := hmax _ hm
      simp at this
      unfold maxLen
      omega
    · rw [pk_out (by omega)] at hp
      have : s = [] := by
        have h2 := congrArg (fun p : TP => p.1.s) hp
        exact h2.symm
      rw [this]
      simp [maxLen])
  clear hS hmax hn hK
  cases hk : (K == 1) with
  | false =>
    have hk' : (K != 1) = true := by simpa using hk
    have HT := Lib.hid (k_no (n := 1) HK.out hk rfl)
    have HG := Lib.hid (show nameP N (L.drop nx) = .bad a 2 by
      unfold nameP
      rw [hp]
      simp only [HT.out, Bool.false_and, Bool.false_eq_true, if_false])
    clear hp hnx
    go_enter Tryz.func59, Tryz.ntmps59
    go_wp2_with (first
      | (go_at_call 61; ((with_reducible refine (takeA_calls K k s n q a _ (HS.out _ (by repeat (first | exact Below.refl _ _ | exact (Below.refl _ _).alloc (Nat.le_refl _) _))) HX.out HP.out HK.out).mono ?_); rintro e w1 ⟨rfl, hs1, hg1⟩; have HS1 := Lib.hid hs1; have HG1 := Lib.hid hg1; have h2 := hs1.below ((Below.refl w1.heap.size w1).alloc (Nat.le_refl _) (.cells #[.int .i64 K, .string (bs s), .int .i64 n, .bool q, .int .i64 (a : Int)] 71)); have HS2 := Lib.hid h2; have HK1 := Lib.hid (IsTok.new (v0 := .int .i64 K) (v1 := .string (bs s)) (v2 := .int .i64 n) (v3 := .bool q) (v4 := .int .i64 (a : Int)) w1); clear hs1 hg1 h2))
      | (go_at_call 35; ((with_reducible refine (fail_ok_calls K (bs s) n q a 2 _ HS2.out).mono ?_); rintro e w2 ⟨rfl, hs2, hg2⟩; have HS3 := Lib.hid hs2; have HG2 := Lib.hid hg2; have hk2 := HK1.out.grown hg2 (by have := HS1.out.lt; simp; omega); have HK2 := Lib.hid hk2; have k1 := hk2.c1; clear hs2 hg2 hk2)))
    go_ret
    refine ⟨grown_trans HG1.out (grown_trans (World.grownBy_alloc _ _ _) HG2.out), s, rfl, ?_⟩
    rw [HG.out]
    exact ⟨by omega, nx + 1, by have := HNX.out; have := HN.out; omega, HS3.out⟩
  | true =>
    have hk' : (K != 1) = false := by simpa using hk
    have HT := Lib.hid (k_yes (n := 1) HK.out hk rfl)
    obtain rfl : K = 1 := by simpa using hk
    clear hk hk'
    cases q with
    | true =>
      have HG := Lib.hid (show nameP N (L.drop nx) = .bad a 2 by
        unfold nameP
        rw [hp]
        simp only [Bool.not_true, Bool.and_false, Bool.false_and, Bool.false_eq_true, if_false])
      clear hp hnx
      go_enter Tryz.func59, Tryz.ntmps59
      go_wp2_with (first
        | (go_at_call 61; ((with_reducible refine (takeA_calls 1 k s n true a _ (HS.out _ (by repeat (first | exact Below.refl _ _ | exact (Below.refl _ _).alloc (Nat.le_refl _) _))) HX.out HP.out HK.out).mono ?_); rintro e w1 ⟨rfl, hs1, hg1⟩; have HS1 := Lib.hid hs1; have HG1 := Lib.hid hg1; have h2 := hs1.below ((Below.refl w1.heap.size w1).alloc (Nat.le_refl _) (.cells #[.int .i64 1, .string (bs s), .int .i64 n, .bool true, .int .i64 (a : Int)] 71)); have HS2 := Lib.hid h2; have HK1 := Lib.hid (IsTok.new (v0 := .int .i64 1) (v1 := .string (bs s)) (v2 := .int .i64 n) (v3 := .bool true) (v4 := .int .i64 (a : Int)) w1); clear hs1 hg1 h2))
        | (go_at_call 35; ((with_reducible refine (fail_ok_calls 1 (bs s) n true a 2 _ HS2.out).mono ?_); rintro e w2 ⟨rfl, hs2, hg2⟩; have HS3 := Lib.hid hs2; have HG2 := Lib.hid hg2; have hk2 := HK1.out.grown hg2 (by have := HS1.out.lt; simp; omega); have HK2 := Lib.hid hk2; have k1 := hk2.c1; clear hs2 hg2 hk2)))
      go_ret
      refine ⟨grown_trans HG1.out (grown_trans (World.grownBy_alloc _ _ _) HG2.out), s, rfl, ?_⟩
      rw [HG.out]
      exact ⟨by omega, nx + 1, by have := HNX.out; have := HN.out; omega, HS3.out⟩
    | false =>
      cases hpl : plainL s with
      | false =>
        have HPL := Lib.hid (show plainL (bs s).data.toList = false from hpl)
        have HG := Lib.hid (show nameP N (L.drop nx) = .bad a 2 by
          unfold nameP
          rw [hp]
          simp only [hpl, Bool.and_false, Bool.false_eq_true, if_false])
        clear hp hnx hpl
        go_enter Tryz.func59, Tryz.ntmps59
        go_wp2_with (first
          | (go_at_call 61; ((with_reducible refine (takeA_calls 1 k s n false a _ (HS.out _ (by repeat (first | exact Below.refl _ _ | exact (Below.refl _ _).alloc (Nat.le_refl _) _))) HX.out HP.out HK.out).mono ?_); rintro e w1 ⟨rfl, hs1, hg1⟩; have HS1 := Lib.hid hs1; have HG1 := Lib.hid hg1; have h2 := hs1.below ((Below.refl w1.heap.size w1).alloc (Nat.le_refl _) (.cells #[.int .i64 1, .string (bs s), .int .i64 n, .bool false, .int .i64 (a : Int)] 71)); have HS2 := Lib.hid h2; have HK1 := Lib.hid (IsTok.new (v0 := .int .i64 1) (v1 := .string (bs s)) (v2 := .int .i64 n) (v3 := .bool false) (v4 := .int .i64 (a : Int)) w1); clear hs1 hg1 h2))
          | (go_at_call 35; ((with_reducible refine (fail_ok_calls 1 (bs s) n false a 2 _ HS4.out).mono ?_); rintro e w2 ⟨rfl, hs2, hg2⟩; have HS3 := Lib.hid hs2; have HG2 := Lib.hid hg2; have hk2 := HK3.out.grown hg2 (by have := HS1.out.lt; simp; omega); have HK2 := Lib.hid hk2; have k1 := hk2.c1; clear hs2 hg2 hk2))
          | (go_at_call 76; ((with_reducible refine (plain_calls _ _ HM.out).mono ?_); rintro e w2 ⟨rfl, hb2⟩; rw [HPL.out]; have hk2 := (HK1.out.grown (grown_below hb2 none) (by simp)); have k0 := hk2.c0; have k1 := hk2.c1; have k2 := hk2.c2; have k3 := hk2.c3; have k4 := hk2.c4; have HB2 := Lib.hid hb2; have HS4 := Lib.hid (HS2.out.below hb2); have HK3 := Lib.hid hk2; clear hb2 hk2)))
        go_ret
        refine ⟨grown_trans HG1.out (grown_trans (World.grownBy_alloc _ _ _) (grown_trans (grown_below HB2.out _) HG2.out)), s, rfl, ?_⟩
        rw [HG.out]
        exact ⟨by omega, nx + 1, by have := HNX.out; have := HN.out; omega, HS3.out⟩
      | true =>
        have HPL := Lib.hid (show plainL (bs s).data.toList = true from hpl)
        have HG := Lib.hid (show nameP N (L.drop nx) = .ok s (L.drop nx).tail by
          unfold nameP
          rw [hp]
          simp only [hpl, HT.out, Bool.not_false, Bool.and_self, if_true])
        have HIN := Lib.hid (next_in hp (by show k ≠ 0; have h1 := HT.out; simp at h1; omega))
        clear hp hnx hpl
        go_enter Tryz.func59, Tryz.ntmps59
        go_wp2_with (first
          | (go_at_call 61; ((with_reducible refine (takeA_calls 1 k s n false a _ (HS.out _ (by repeat (first | exact Below.refl _ _ | exact (Below.refl _ _).alloc (Nat.le_refl _) _))) HX.out HP.out HK.out).mono ?_); rintro e w1 ⟨rfl, hs1, hg1⟩; have HS1 := Lib.hid hs1; have HG1 := Lib.hid hg1; have h2 := hs1.below ((Below.refl w1.heap.size w1).alloc (Nat.le_refl _) (.cells #[.int .i64 1, .string (bs s), .int .i64 n, .bool false, .int .i64 (a : Int)] 71)); have HS2 := Lib.hid h2; have HK1 := Lib.hid (IsTok.new (v0 := .int .i64 1) (v1 := .string (bs s)) (v2 := .int .i64 n) (v3 := .bool false) (v4 := .int .i64 (a : Int)) w1); clear hs1 hg1 h2))
          | (go_at_call 76; ((with_reducible refine (plain_calls _ _ HM.out).mono ?_); rintro e w2 ⟨rfl, hb2⟩; rw [HPL.out]; have hk2 := (HK1.out.grown (grown_below hb2 none) (by simp)); have k0 := hk2.c0; have k1 := hk2.c1; have k2 := hk2.c2; have k3 := hk2.c3; have k4 := hk2.c4; have HB2 := Lib.hid hb2; have HS4 := Lib.hid (HS2.out.below hb2); have HK3 := Lib.hid hk2; clear hb2 hk2)))
        go_ret
        refine ⟨grown_trans HG1.out (grown_trans (World.grownBy_alloc _ _ _) (grown_below HB2.out _)), s, rfl, ?_⟩
        rw [HG.out]
        exact ⟨rfl, nx + 1, HIN.out, by rw [List.tail_drop], HS4.out⟩

set_option maxRecDepth 100000 in
set_option maxHeartbeats 8000000 in
theorem term_calls {P : Nat} {L : List TP} {N : Nat} {A : Option Addr} {c : Nat} {r : List TP} (w : World) (h : PO P L N A c r w) :
    Calls Tryz.prog 64 #[.pointer (some ⟨P, 0, none⟩)] w fun e w' => w.grownBy w' (some P) ∧ ∃ x, e = .returned (termA x) ∧ PGot P L N A c 65537 (termP N r) (fun y => y = x) w' := by
  obtain ⟨nx, hnx, rfl, hS⟩ := h
  obtain ⟨⟨⟨k, s, n, q⟩, a⟩, hp⟩ : ∃ p, pk N (L.drop nx) 0 = p := ⟨_, rfl⟩
  obtain ⟨K, hK⟩ : ∃ K : Int, (k : Int) = K := ⟨_, rfl⟩
  have HK := Lib.hid hK
  have hn := hS.n
  have HN := Lib.hid hn
  have HNX := Lib.hid hnx
  have HS := Lib.hid (fun W (hb : Below w.heap.size w W) => hS.below hb)
  have HX := Lib.hid (show nx + 1 ≤ 1000000 by omega)
  have HP := Lib.hid hp
  have HLT := Lib.hid hS.lt
  have HOLD := Lib.hid (fun T (he : some T = Value.ownBlock (.slice A L.length c)) => hS.old he)
  have HZ := Lib.hid (IsTrm.new (v0 := .bool false) (v1 := .string ⟨#[]⟩) (v2 := .bool false) (v3 := .string ⟨#[]⟩) (v4 := .int .i64 0) w)
  clear hS hn hK
  cases h2 : (K == 2) with
  | true =>
    have HT := Lib.hid (k_yes (n := 2) HK.out h2 rfl)
    obtain rfl : K = 2 := by simpa using h2
    clear h2
    have HG := Lib.hid (show termP N (L.drop nx) = (.ok ⟨true, s, false, [], 0⟩ (L.drop nx).tail) by
      unfold termP
      rw [hp]
      simp only [HT.out, if_true])
    have HIN := Lib.hid (next_in hp (by show k ≠ 0; have h1 := HT.out; simp at h1; omega))
    clear hp hnx
    go_enter Tryz.func64, Tryz.ntmps64
    go_wp2_with (first
      | (go_at_call 61; ((with_reducible refine (takeA_calls 2 k s n q a _ (HS.out _ (by repeat (first | exact Below.refl _ _ | exact (Below.refl _ _).alloc (Nat.le_refl _) _))) HX.out HP.out HK.out).mono ?_); rintro e w1 ⟨rfl, hs1, hg1⟩; have HS1 := Lib.hid hs1; have HG1 := Lib.hid hg1; have h2 := hs1.below ((Below.refl w1.heap.size w1).alloc (Nat.le_refl _) (.cells #[.int .i64 2, .string (bs s), .int .i64 n, .bool q, .int .i64 (a : Int)] 71)); have HS2 := Lib.hid h2; have HK1 := Lib.hid (IsTok.new (v0 := .int .i64 2) (v1 := .string (bs s)) (v2 := .int .i64 n) (v3 := .bool q) (v4 := .int .i64 (a : Int)) w1); have HZ1 := Lib.hid ((HZ.out.grown hg1 (by have := HLT.out; simp; omega)).grown (row := none) (World.grownBy_alloc w1 (.cells #[.int .i64 2, .string (bs s), .int .i64 n, .bool q, .int .i64 (a : Int)] 71) none) (by simp)); have z0 := HZ1.out.c0; have z1 := HZ1.out.c1; have z2 := HZ1.out.c2; have z3 := HZ1.out.c3; have z4 := HZ1.out.c4; have y0 := HZ1.out.fr 0; have y1 := HZ1.out.fr 1; have y2 := HZ1.out.fr 2; have y3 := HZ1.out.fr 3; have y4 := HZ1.out.fr 4; clear hs1 hg1 h2)))
    have hset := HZ1.out.set (.bool true) (.string (bs s)) (.bool false) (.string ⟨#[]⟩) (.int .i64 0)
    have r0 := hset.c0; have r1 := hset.c1; have r2 := hset.c2; have r3 := hset.c3; have r4 := hset.c4
    refine bodyPost_ret (v := .agg #[.bool true, .string (bs s), .bool false, .string ⟨#[]⟩, .int .i64 0]) (by simp [results, Tryz.results64, go_sem, r0, r1, r2, r3, r4]) rfl ⟨grown_tokSet (grown_trans (World.grownBy_alloc _ _ _) (grown_trans HG1.out (grown_trans (World.grownBy_alloc _ _ _) (World.grownBy.refl _ _)))) (Nat.le_refl _) _ _ _ _ _, ⟨true, s, false, [], 0⟩, rfl, ?_⟩
    rw [HG.out]
    exact ⟨rfl, nx + 1, HIN.out, by rw [List.tail_drop], HS2.out.tokSet (by have := HLT.out; omega) (fun he => Nat.lt_irrefl _ (HOLD.out _ he)) _ _ _ _ _⟩
  | false =>
    have HT2 := Lib.hid (k_no (n := 2) HK.out h2 rfl)
    cases h3 : (K == 3) with
    | true =>
      have HT := Lib.hid (k_yes (n := 3) HK.out h3 rfl)
      obtain rfl : K = 3 := by simpa using h3
      clear h2 h3
      have HG := Lib.hid (show termP N (L.drop nx) = (.ok ⟨false, [], false, [], n⟩ (L.drop nx).tail) by
        unfold termP
        rw [hp]
        simp only [HT.out, HT2.out, Bool.false_eq_true, if_false, if_true])
      have HIN := Lib.hid (next_in hp (by show k ≠ 0; have h1 := HT.out; simp at h1; omega))
      clear hp hnx
      go_enter Tryz.func64, Tryz.ntmps64
      go_wp2_with (first
        | (go_at_call 61; ((with_reducible refine (takeA_calls 3 k s n q a _ (HS.out _ (by repeat (first | exact Below.refl _ _ | exact (Below.refl _ _).alloc (Nat.le_refl _) _))) HX.out HP.out HK.out).mono ?_); rintro e w1 ⟨rfl, hs1, hg1⟩; have HS1 := Lib.hid hs1; have HG1 := Lib.hid hg1; have h2 := hs1.below ((Below.refl w1.heap.size w1).alloc (Nat.le_refl _) (.cells #[.int .i64 3, .string (bs s), .int .i64 n, .bool q, .int .i64 (a : Int)] 71)); have HS2 := Lib.hid h2; have HK1 := Lib.hid (IsTok.new (v0 := .int .i64 3) (v1 := .string (bs s)) (v2 := .int .i64 n) (v3 := .bool q) (v4 := .int .i64 (a : Int)) w1); have HZ1 := Lib.hid ((HZ.out.grown hg1 (by have := HLT.out; simp; omega)).grown (row := none) (World.grownBy_alloc w1 (.cells #[.int .i64 3, .string (bs s), .int .i64 n, .bool q, .int .i64 (a : Int)] 71) none) (by simp)); have z0 := HZ1.out.c0; have z1 := HZ1.out.c1; have z2 := HZ1.out.c2; have z3 := HZ1.out.c3; have z4 := HZ1.out.c4; have y0 := HZ1.out.fr 0; have y1 := HZ1.out.fr 1; have y2 := HZ1.out.fr 2; have y3 := HZ1.out.fr 3; have y4 := HZ1.out.fr 4; clear hs1 hg1 h2))
        | (go_at_call 94; ((with_reducible refine (int_calls _ _).mono ?_); rintro e w2 ⟨rfl, hb2⟩; have HZ2 := Lib.hid (HZ1.out.grown (grown_below hb2 none) (by simp)); clear z0 z1 z2 z3 z4 y0 y1 y2 y3 y4; have z0 := HZ2.out.c0; have z1 := HZ2.out.c1; have z2 := HZ2.out.c2; have z3 := HZ2.out.c3; have z4 := HZ2.out.c4; have y0 := HZ2.out.fr 0; have y1 := HZ2.out.fr 1; have y2 := HZ2.out.fr 2; have y3 := HZ2.out.fr 3; have y4 := HZ2.out.fr 4; have HB2 := Lib.hid hb2; have HS4 := Lib.hid (HS2.out.below hb2); clear hb2)))
      have hset := HZ2.out.set (.bool false) (.string ⟨#[]⟩) (.bool false) (.string ⟨#[]⟩) (.int .i64 n)
      have r0 := hset.c0; have r1 := hset.c1; have r2 := hset.c2; have r3 := hset.c3; have r4 := hset.c4
      refine bodyPost_ret (v := .agg #[.bool false, .string ⟨#[]⟩, .bool false, .string ⟨#[]⟩, .int .i64 n]) (by simp [results, Tryz.results64, go_sem, r0, r1, r2, r3, r4]) rfl ⟨grown_tokSet (grown_trans (World.grownBy_alloc _ _ _) (grown_trans HG1.out (grown_trans (World.grownBy_alloc _ _ _) (grown_below HB2.out _)))) (Nat.le_refl _) _ _ _ _ _, ⟨false, [], false, [], n⟩, rfl, ?_⟩
      rw [HG.out]
      exact ⟨rfl, nx + 1, HIN.out, by rw [List.tail_drop], HS4.out.tokSet (by have := HLT.out; omega) (fun he => Nat.lt_irrefl _ (HOLD.out _ he)) _ _ _ _ _⟩
    | false =>
      have HT3 := Lib.hid (k_no (n := 3) HK.out h3 rfl)
      cases h1 : (K == 1) with
      | false =>
        have HT1 := Lib.hid (k_no (n := 1) HK.out h1 rfl)
        have HG := Lib.hid (show termP N (L.drop nx) = (.bad a 2) by
          unfold termP
          rw [hp]
          simp only [HT1.out, HT2.out, HT3.out, Bool.false_and, Bool.false_eq_true, if_false])
        clear hp hnx
        go_enter Tryz.func64, Tryz.ntmps64
        go_wp2_with (first
          | (go_at_call 61; ((with_reducible refine (takeA_calls K k s n q a _ (HS.out _ (by repeat (first | exact Below.refl _ _ | exact (Below.refl _ _).alloc (Nat.le_refl _) _))) HX.out HP.out HK.out).mono ?_); rintro e w1 ⟨rfl, hs1, hg1⟩; have HS1 := Lib.hid hs1; have HG1 := Lib.hid hg1; have h2 := hs1.below ((Below.refl w1.heap.size w1).alloc (Nat.le_refl _) (.cells #[.int .i64 K, .string (bs s), .int .i64 n, .bool q, .int .i64 (a : Int)] 71)); have HS2 := Lib.hid h2; have HK1 := Lib.hid (IsTok.new (v0 := .int .i64 K) (v1 := .string (bs s)) (v2 := .int .i64 n) (v3 := .bool q) (v4 := .int .i64 (a : Int)) w1); have HZ1 := Lib.hid ((HZ.out.grown hg1 (by have := HLT.out; simp; omega)).grown (row := none) (World.grownBy_alloc w1 (.cells #[.int .i64 K, .string (bs s), .int .i64 n, .bool q, .int .i64 (a : Int)] 71) none) (by simp)); have z0 := HZ1.out.c0; have z1 := HZ1.out.c1; have z2 := HZ1.out.c2; have z3 := HZ1.out.c3; have z4 := HZ1.out.c4; have y0 := HZ1.out.fr 0; have y1 := HZ1.out.fr 1; have y2 := HZ1.out.fr 2; have y3 := HZ1.out.fr 3; have y4 := HZ1.out.fr 4; clear hs1 hg1 h2))
          | (go_at_call 35; ((with_reducible refine (fail_ok_calls K (bs s) n q a 2 _ HS2.out).mono ?_); rintro e w2 ⟨rfl, hs2, hg2⟩; have HS3 := Lib.hid hs2; have HG2 := Lib.hid hg2; have hk2 := HK1.out.grown hg2 (by have := HS1.out.lt; simp; omega); have HK2 := Lib.hid hk2; have HZ2 := Lib.hid (HZ1.out.grown hg2 (by have := HLT.out; simp; omega)); clear z0 z1 z2 z3 z4 y0 y1 y2 y3 y4; have z0 := HZ2.out.c0; have z1 := HZ2.out.c1; have z2 := HZ2.out.c2; have z3 := HZ2.out.c3; have z4 := HZ2.out.c4; have y0 := HZ2.out.fr 0; have y1 := HZ2.out.fr 1; have y2 := HZ2.out.fr 2; have y3 := HZ2.out.fr 3; have y4 := HZ2.out.fr 4; clear hs2 hg2 hk2)))
        have hset := HZ2.out.set (.bool false) (.string ⟨#[]⟩) (.bool false) (.string ⟨#[]⟩) (.int .i64 0)
        have r0 := hset.c0; have r1 := hset.c1; have r2 := hset.c2; have r3 := hset.c3; have r4 := hset.c4
        refine bodyPost_ret (v := .agg #[.bool false, .string ⟨#[]⟩, .bool false, .string ⟨#[]⟩, .int .i64 0]) (by simp [results, Tryz.results64, go_sem, r0, r1, r2, r3, r4]) rfl ⟨grown_tokSet (grown_trans (World.grownBy_alloc _ _ _) (grown_trans HG1.out (grown_trans (World.grownBy_alloc _ _ _) HG2.out))) (Nat.le_refl _) _ _ _ _ _, term0, rfl, ?_⟩
        rw [HG.out]
        exact ⟨by omega, nx + 1, by have := HNX.out; have := HN.out; omega, HS3.out.tokSet (by have := HLT.out; omega) (fun he => Nat.lt_irrefl _ (HOLD.out _ he)) _ _ _ _ _⟩
      | true =>
        have HT := Lib.hid (k_yes (n := 1) HK.out h1 rfl)
        obtain rfl : K = 1 := by simpa using h1
        clear h1 h2 h3
        cases q with
        | true =>
          have HG := Lib.hid (show termP N (L.drop nx) = (.ok ⟨false, [], true, s, 0⟩ (L.drop nx).tail) by
            unfold termP
            rw [hp]
            simp only [HT.out, HT2.out, HT3.out, Bool.true_or, Bool.and_self, Bool.false_eq_true, if_false, if_true])
          have HIN := Lib.hid (next_in hp (by show k ≠ 0; have h1 := HT.out; simp at h1; omega))
          clear hp hnx
          go_enter Tryz.func64, Tryz.ntmps64
          go_wp2_with (first
            | (go_at_call 61; ((with_reducible refine (takeA_calls 1 k s n true a _ (HS.out _ (by repeat (first | exact Below.refl _ _ | exact (Below.refl _ _).alloc (Nat.le_refl _) _))) HX.out HP.out HK.out).mono ?_); rintro e w1 ⟨rfl, hs1, hg1⟩; have HS1 := Lib.hid hs1; have HG1 := Lib.hid hg1; have h2 := hs1.below ((Below.refl w1.heap.size w1).alloc (Nat.le_refl _) (.cells #[.int .i64 1, .string (bs s), .int .i64 n, .bool true, .int .i64 (a : Int)] 71)); have HS2 := Lib.hid h2; have HK1 := Lib.hid (IsTok.new (v0 := .int .i64 1) (v1 := .string (bs s)) (v2 := .int .i64 n) (v3 := .bool true) (v4 := .int .i64 (a : Int)) w1); have HZ1 := Lib.hid ((HZ.out.grown hg1 (by have := HLT.out; simp; omega)).grown (row := none) (World.grownBy_alloc w1 (.cells #[.int .i64 1, .string (bs s), .int .i64 n, .bool true, .int .i64 (a : Int)] 71) none) (by simp)); have z0 := HZ1.out.c0; have z1 := HZ1.out.c1; have z2 := HZ1.out.c2; have z3 := HZ1.out.c3; have z4 := HZ1.out.c4; have y0 := HZ1.out.fr 0; have y1 := HZ1.out.fr 1; have y2 := HZ1.out.fr 2; have y3 := HZ1.out.fr 3; have y4 := HZ1.out.fr 4; clear hs1 hg1 h2))
            | (go_at_call 95; ((with_reducible refine (sym_calls _ _).mono ?_); rintro e w2 ⟨rfl, hb2⟩; have HZ2 := Lib.hid (HZ1.out.grown (grown_below hb2 none) (by simp)); clear z0 z1 z2 z3 z4 y0 y1 y2 y3 y4; have z0 := HZ2.out.c0; have z1 := HZ2.out.c1; have z2 := HZ2.out.c2; have z3 := HZ2.out.c3; have z4 := HZ2.out.c4; have y0 := HZ2.out.fr 0; have y1 := HZ2.out.fr 1; have y2 := HZ2.out.fr 2; have y3 := HZ2.out.fr 3; have y4 := HZ2.out.fr 4; have HB2 := Lib.hid hb2; have HS4 := Lib.hid (HS2.out.below hb2); clear hb2)))
          have hset := HZ2.out.set (.bool false) (.string ⟨#[]⟩) (.bool true) (.string (bs s)) (.int .i64 0)
          have r0 := hset.c0; have r1 := hset.c1; have r2 := hset.c2; have r3 := hset.c3; have r4 := hset.c4
          refine bodyPost_ret (v := .agg #[.bool false, .string ⟨#[]⟩, .bool true, .string (bs s), .int .i64 0]) (by simp [results, Tryz.results64, go_sem, r0, r1, r2, r3, r4]) rfl ⟨grown_tokSet (grown_trans (World.grownBy_alloc _ _ _) (grown_trans HG1.out (grown_trans (World.grownBy_alloc _ _ _) (grown_below HB2.out _)))) (Nat.le_refl _) _ _ _ _ _, ⟨false, [], true, s, 0⟩, rfl, ?_⟩
          rw [HG.out]
          exact ⟨rfl, nx + 1, HIN.out, by rw [List.tail_drop], HS4.out.tokSet (by have := HLT.out; omega) (fun he => Nat.lt_irrefl _ (HOLD.out _ he)) _ _ _ _ _⟩
        | false =>
          cases hs : ((bs s).toList == [110, 111, 116]) with
          | true =>
            have HNOT := Lib.hid (show (s == notL) = true by rw [← bs_list s]; exact hs)
            have hs' : ((bs s).toList != [110, 111, 116]) = false := by simpa using hs
            have HG := Lib.hid (show termP N (L.drop nx) = (.bad a 2) by
              unfold termP
              rw [hp]
              simp only [HT.out, HT2.out, HT3.out, HNOT.out, Bool.not_true, Bool.false_or, Bool.and_false, Bool.false_eq_true, if_false])
            clear hp hnx
            go_enter Tryz.func64, Tryz.ntmps64
            go_wp2_with (first
              | (go_at_call 61; ((with_reducible refine (takeA_calls 1 k s n false a _ (HS.out _ (by repeat (first | exact Below.refl _ _ | exact (Below.refl _ _).alloc (Nat.le_refl _) _))) HX.out HP.out HK.out).mono ?_); rintro e w1 ⟨rfl, hs1, hg1⟩; have HS1 := Lib.hid hs1; have HG1 := Lib.hid hg1; have h2 := hs1.below ((Below.refl w1.heap.size w1).alloc (Nat.le_refl _) (.cells #[.int .i64 1, .string (bs s), .int .i64 n, .bool false, .int .i64 (a : Int)] 71)); have HS2 := Lib.hid h2; have HK1 := Lib.hid (IsTok.new (v0 := .int .i64 1) (v1 := .string (bs s)) (v2 := .int .i64 n) (v3 := .bool false) (v4 := .int .i64 (a : Int)) w1); have HZ1 := Lib.hid ((HZ.out.grown hg1 (by have := HLT.out; simp; omega)).grown (row := none) (World.grownBy_alloc w1 (.cells #[.int .i64 1, .string (bs s), .int .i64 n, .bool false, .int .i64 (a : Int)] 71) none) (by simp)); have z0 := HZ1.out.c0; have z1 := HZ1.out.c1; have z2 := HZ1.out.c2; have z3 := HZ1.out.c3; have z4 := HZ1.out.c4; have y0 := HZ1.out.fr 0; have y1 := HZ1.out.fr 1; have y2 := HZ1.out.fr 2; have y3 := HZ1.out.fr 3; have y4 := HZ1.out.fr 4; clear hs1 hg1 h2))
              | (go_at_call 35; ((with_reducible refine (fail_ok_calls 1 (bs s) n false a 2 _ HS2.out).mono ?_); rintro e w2 ⟨rfl, hs2, hg2⟩; have HS3 := Lib.hid hs2; have HG2 := Lib.hid hg2; have hk2 := HK1.out.grown hg2 (by have := HS1.out.lt; simp; omega); have HK2 := Lib.hid hk2; have HZ2 := Lib.hid (HZ1.out.grown hg2 (by have := HLT.out; simp; omega)); clear z0 z1 z2 z3 z4 y0 y1 y2 y3 y4; have z0 := HZ2.out.c0; have z1 := HZ2.out.c1; have z2 := HZ2.out.c2; have z3 := HZ2.out.c3; have z4 := HZ2.out.c4; have y0 := HZ2.out.fr 0; have y1 := HZ2.out.fr 1; have y2 := HZ2.out.fr 2; have y3 := HZ2.out.fr 3; have y4 := HZ2.out.fr 4; clear hs2 hg2 hk2)))
            have hset := HZ2.out.set (.bool false) (.string ⟨#[]⟩) (.bool false) (.string ⟨#[]⟩) (.int .i64 0)
            have r0 := hset.c0; have r1 := hset.c1; have r2 := hset.c2; have r3 := hset.c3; have r4 := hset.c4
            refine bodyPost_ret (v := .agg #[.bool false, .string ⟨#[]⟩, .bool false, .string ⟨#[]⟩, .int .i64 0]) (by simp [results, Tryz.results64, go_sem, r0, r1, r2, r3, r4]) rfl ⟨grown_tokSet (grown_trans (World.grownBy_alloc _ _ _) (grown_trans HG1.out (grown_trans (World.grownBy_alloc _ _ _) HG2.out))) (Nat.le_refl _) _ _ _ _ _, term0, rfl, ?_⟩
            rw [HG.out]
            exact ⟨by omega, nx + 1, by have := HNX.out; have := HN.out; omega, HS3.out.tokSet (by have := HLT.out; omega) (fun he => Nat.lt_irrefl _ (HOLD.out _ he)) _ _ _ _ _⟩
          | false =>
            have HNOT := Lib.hid (show (s == notL) = false by rw [← bs_list s]; exact hs)
            have hs' : ((bs s).toList != [110, 111, 116]) = true := by simpa using hs
            have HG := Lib.hid (show termP N (L.drop nx) = (.ok ⟨false, [], true, s, 0⟩ (L.drop nx).tail) by
              unfold termP
              rw [hp]
              simp only [HT.out, HT2.out, HT3.out, HNOT.out, Bool.not_false, Bool.false_or, Bool.and_self, Bool.false_eq_true, if_false, if_true])
            have HIN := Lib.hid (next_in hp (by show k ≠ 0; have h1 := HT.out; simp at h1; omega))
            clear hp hnx
            go_enter Tryz.func64, Tryz.ntmps64
            go_wp2_with (first
              | (go_at_call 61; ((with_reducible refine (takeA_calls 1 k s n false a _ (HS.out _ (by repeat (first | exact Below.refl _ _ | exact (Below.refl _ _).alloc (Nat.le_refl _) _))) HX.out HP.out HK.out).mono ?_); rintro e w1 ⟨rfl, hs1, hg1⟩; have HS1 := Lib.hid hs1; have HG1 := Lib.hid hg1; have h2 := hs1.below ((Below.refl w1.heap.size w1).alloc (Nat.le_refl _) (.cells #[.int .i64 1, .string (bs s), .int .i64 n, .bool false, .int .i64 (a : Int)] 71)); have HS2 := Lib.hid h2; have HK1 := Lib.hid (IsTok.new (v0 := .int .i64 1) (v1 := .string (bs s)) (v2 := .int .i64 n) (v3 := .bool false) (v4 := .int .i64 (a : Int)) w1); have HZ1 := Lib.hid ((HZ.out.grown hg1 (by have := HLT.out; simp; omega)).grown (row := none) (World.grownBy_alloc w1 (.cells #[.int .i64 1, .string (bs s), .int .i64 n, .bool false, .int .i64 (a : Int)] 71) none) (by simp)); have z0 := HZ1.out.c0; have z1 := HZ1.out.c1; have z2 := HZ1.out.c2; have z3 := HZ1.out.c3; have z4 := HZ1.out.c4; have y0 := HZ1.out.fr 0; have y1 := HZ1.out.fr 1; have y2 := HZ1.out.fr 2; have y3 := HZ1.out.fr 3; have y4 := HZ1.out.fr 4; clear hs1 hg1 h2))
              | (go_at_call 95; ((with_reducible refine (sym_calls _ _).mono ?_); rintro e w2 ⟨rfl, hb2⟩; have HZ2 := Lib.hid (HZ1.out.grown (grown_below hb2 none) (by simp)); clear z0 z1 z2 z3 z4 y0 y1 y2 y3 y4; have z0 := HZ2.out.c0; have z1 := HZ2.out.c1; have z2 := HZ2.out.c2; have z3 := HZ2.out.c3; have z4 := HZ2.out.c4; have y0 := HZ2.out.fr 0; have y1 := HZ2.out.fr 1; have y2 := HZ2.out.fr 2; have y3 := HZ2.out.fr 3; have y4 := HZ2.out.fr 4; have HB2 := Lib.hid hb2; have HS4 := Lib.hid (HS2.out.below hb2); clear hb2)))
            have hset := HZ2.out.set (.bool false) (.string ⟨#[]⟩) (.bool true) (.string (bs s)) (.int .i64 0)
            have r0 := hset.c0; have r1 := hset.c1; have r2 := hset.c2; have r3 := hset.c3; have r4 := hset.c4
            refine bodyPost_ret (v := .agg #[.bool false, .string ⟨#[]⟩, .bool true, .string (bs s), .int .i64 0]) (by simp [results, Tryz.results64, go_sem, r0, r1, r2, r3, r4]) rfl ⟨grown_tokSet (grown_trans (World.grownBy_alloc _ _ _) (grown_trans HG1.out (grown_trans (World.grownBy_alloc _ _ _) (grown_below HB2.out _)))) (Nat.le_refl _) _ _ _ _ _, ⟨false, [], true, s, 0⟩, rfl, ?_⟩
            rw [HG.out]
            exact ⟨rfl, nx + 1, HIN.out, by rw [List.tail_drop], HS4.out.tokSet (by have := HLT.out; omega) (fun he => Nat.lt_irrefl _ (HOLD.out _ he)) _ _ _ _ _⟩
end Go.Proofs.YtminbdcabacfbaaGreatDoor.V
