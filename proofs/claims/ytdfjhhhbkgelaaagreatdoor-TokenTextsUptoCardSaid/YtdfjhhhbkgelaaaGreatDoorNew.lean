/- strings.NewReplacer at the three pairs, and (*strings.Replacer).Replace behind it. -/
import Derived.Test.YtdfjhhhbkgelaaaGreatDoorReplace
namespace Go.Proofs.YtdfjhhhbkgelaaaGreatDoor.V
set_option linter.unusedVariables false
open Go.RowKit
set_option linter.unusedSimpArgs false

/-- A replacer as NewReplacer lays it. -/
def Fresh (B r g c : Nat) (W : World) : Prop := W.heap[r]? = some (Obj.cells #[.int .u32 0, .int .i32 0, .int .u32 0, .nilIface, .slice (some ⟨g, 0, none⟩) 6 c] 96 (0, 0)) ∧ Six W g ∧ g ≠ r ∧ B ≤ r

def NewPost (w : World) (e : Ending) (w' : World) : Prop := ∃ r g c, e = .returned (.pointer (some ⟨r, 0, none⟩)) ∧ Fresh w.heap.size r g c w' ∧ Below w.heap.size w w'

set_option maxRecDepth 100000 in
set_option maxHeartbeats 2000000 in
theorem new_calls (b : Nat) (cp : Nat) (w : World) (hs : Six w b) : Calls Tryz.prog 60 #[.slice (some ⟨b, 0, none⟩) 6 cp] w (NewPost w) := by
  obtain ⟨i0, hi, hz0, hz1, hz2⟩ := info_parts infoString
  have HS := Lib.hid hs
  clear hs
  go_enter Tryz.func60, Tryz.ntmps60
  go_wp2_with (at_builtin; refine RowKit.Hid.out ?_)
  refine Lib.hid ?_
  refine wpList_append_own_at _ rfl (.const (.slice none 0 0)) (.tmp 8) 69 rfl w.heap.size 9 i0 (.string ⟨#[]⟩) 1 16 Tryz.underlying69 hi hz0 hz1 hz2 rfl (by decide) (.slice none 0 0) 0 [] rfl ⟨rfl, .inl ⟨rfl, rfl⟩⟩ ⟨b, 0, none⟩ 6 cp pairs.toList rfl rfl ?_ ?_ ?_ ?_ ?_ ?_
  · intro j u hu
    have := HS.out j u (by simpa using hu)
    have ha : (⟨b, 0, none⟩ : Addr).add j = ⟨b, j, none⟩ := by unfold Addr.add; split <;> simp_all
    rw [ha]
    exact this
  · intro u hu
    revert u
    decide
  · decide
  · decide
  · exact Nat.le_refl _
  intro v2 w2 hown2 hg2 _ hat2
  rw [Nat.zero_add, List.nil_append] at hown2
  obtain ⟨g, cap, cur, rfl, hgb, hgk, hcap, _, hsz, hcur⟩ : ∃ g cap cur, v2 = .slice (some ⟨g, 0, none⟩) 6 cap ∧ w.heap.size ≤ g ∧ w2.heap[g]? = some (.cells cur 9 (0, 0)) ∧ 6 ≤ cap ∧ cap ≤ maxLen ∧ cur.size = cap * 1 ∧ cur.toList.take (6 * 1) = pairs.toList := by
    rcases hown2.2 with ⟨_, h6⟩ | h
    · cases h6
    · exact h
  have HSIX := Lib.hid (show Six w2 g from fun i u hu => by
    rw [cell_of_row _ _ i _ _ _ hgk]
    have h1 : pairs.toList[i]? = some u := by simpa using hu
    rw [← hcur, List.getElem?_take] at h1
    split at h1
    · simpa using h1
    · cases h1)
  have HB2 := Lib.hid (show Below w.heap.size w w2 from (Below.refl _ _).grown hg2 (Nat.le_refl _) (fun k hk => by cases hk))
  have HGL := Lib.hid (Array.getElem?_eq_some_iff.1 hgk).1
  clear hown2 hg2 hat2 hgk hcur hsz hcap
  go_wp2_with fail
  go_ret
  exact ⟨w2.heap.size, g, cap, rfl, ⟨heap_alloc_new w2 _, HSIX.out.below ((Below.refl _ _).alloc (Nat.le_refl _) _), Nat.ne_of_lt HGL.out, HB2.out.size⟩, HB2.out.alloc HB2.out.size _⟩

theorem nil_ahead (a : Addr) (w : World) : (nilAhead 305 138 (.pointer (some a)) "Replace").run Tryz.prog w = .ok (some false) w := by kernel_rfl
theorem method_replace (a : Addr) (w : World) : (method 305 138 (.pointer (some a)) "Replace").run Tryz.prog w = .ok (153, .pointer (some a)) w := by kernel_rfl

/-- The table behind the once's road. -/
theorem rep_of {B q : Nat} {w W : World} (h : BInv B q w 3 W) : ∃ A c C, Rep W q A c C := by
  obtain ⟨v, C, hb, hq, hrow, hown, hsz, hv, htab⟩ := h
  rcases hown.2 with ⟨_, h3⟩ | ⟨t, cap, cur, rfl, _, hk, _, _, _, hcur⟩
  · cases h3
  · have hi : ∀ (i : Nat) (u : Value), (olds 3)[i]? = some u → cur[i]? = some u := by
      intro i u hu
      rw [← hcur, List.getElem?_take] at hu
      split at hu
      · simpa using hu
      · cases hu
    exact ⟨_, _, C, hrow, hv, htab, t, cur, _, rfl, hk, hi 0 _ rfl, hi 1 _ rfl, hi 2 _ rfl⟩
theorem Rep.left {r B q : Nat} {w1 : World} {A : Option Addr} {c : Nat} {C : Array Value} {xs : Array Value} (h : Rep w1 q A c C) (hr : w1.heap[r]? = some (Obj.cells xs 96 (0, 0))) : Rep (OnceLeft r B w1 q) q A c C := by
  obtain ⟨hb, hl, ht, t, cur, m, hA, hk, h0, h1, h2⟩ := h
  have far : ∀ (k t : Nat) (D : Array Value) (m : Nat × Nat), w1.heap[k]? = some (Obj.cells D t m) → t ≠ 96 → (OnceLeft r B w1 q).heap[k]? = some (Obj.cells D t m) := fun k t D m hk hne => onceLeft_far hk (fun e => by
    subst e
    exact hne (block_ty hk hr))
  exact ⟨far _ _ _ _ hb (by decide), hl, ht.move (fun a D m ha => far _ _ _ _ ha (by decide)), t, cur, m, hA, far _ _ _ _ hk (by decide), h0, h1, h2⟩

set_option maxRecDepth 100000 in
set_option maxHeartbeats 2000000 in
theorem replacer_calls (B r g c : Nat) (s : ByteArray) (w : World) (hF : Fresh B r g c w) (hBw : B ≤ w.heap.size) (hs : s.size ≤ 1099511627776) :
    Calls Tryz.prog 61 #[.pointer (some ⟨r, 0, none⟩), .string s] w fun e w' => e = .returned (.string ⟨(escL s.data.toList).toArray⟩) ∧ Below B w w' := by
  have hmf : ∀ (fn : Fn) (first cap : Array Value) (w : World), (Instr.makeFunc fn first cap).run Tryz.prog w = .ok (.func fn first cap) w := fun _ _ _ _ => rfl
  have hna := nil_ahead
  have hme := method_replace
  obtain ⟨hr, hsix, hne, hBr⟩ := hF
  have HR := Lib.hid hr
  have HS := Lib.hid hsix
  clear hr hsix
  go_enter Tryz.func61, Tryz.ntmps61
  go_wp2_with (go_at_call 67; refine (do_calls r g c _ HR.out HS.out hne).mono ?_; rintro e w' ⟨rfl, q, w1, hI, rfl⟩; refine RowKit.Hid.out ?_)
  refine Lib.hid ?_
  obtain ⟨A, cA, C, hRep⟩ := rep_of hI
  obtain ⟨v0, C0, hb0, _⟩ := hI
  have hrl : r < w.heap.size := (Array.getElem?_eq_some_iff.1 HR.out).1
  have hw1 := (hb0.block r hrl).trans (setb_block (j := 1) (.int .i32 1) HR.out)
  have hL := onceLeft_block (B := w.heap.size) (q := q) (w1 := w1) hw1
  have hRL := hRep.left (B := w.heap.size) hw1
  have hBL : Below B w (OnceLeft r w.heap.size w1 q) := onceLeft_below (((Below.refl B w).setCell hBr _).trans (hb0.mono hBw)) hBr
  generalize OnceLeft r w.heap.size w1 q = W2 at hL hRL hBL ⊢
  have c3 : W2.cell? ⟨r, 3, none⟩ = some (.iface 138 (.pointer (some ⟨q, 0, none⟩))) := cell_of_row _ _ 3 _ _ _ hL
  have HRL := Lib.hid hRL
  have HBL := Lib.hid hBL
  clear hb0 hw1 hL hRL hBL hRep
  go_wp2_with (go_at_call 153; refine (replace_calls q A cA C s _ HRL.out hs).mono ?_; rintro e w' ⟨rfl, hb⟩)
  go_ret
  exact ⟨rfl, HBL.out.trans (hb.mono (Nat.le_trans hBw HBL.out.size))⟩
end Go.Proofs.YtdfjhhhbkgelaaaGreatDoor.V
