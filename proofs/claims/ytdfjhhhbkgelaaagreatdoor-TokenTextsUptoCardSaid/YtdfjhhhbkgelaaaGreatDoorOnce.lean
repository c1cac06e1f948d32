/- (*strings.Replacer).buildOnce, and sync.Once's slow road round it: the lock is taken, the table is built, the two deferred calls. -/
import Derived.Test.YtdfjhhhbkgelaaaGreatDoorBuild
namespace Go.Proofs.YtdfjhhhbkgelaaaGreatDoor.V
set_option linter.unusedVariables false
open Go.RowKit
set_option linter.unusedSimpArgs false

/-- The pairs as NewReplacer has laid them. -/
def pairs : Array Value := #[.string ⟨#[92]⟩, .string ⟨#[92, 92]⟩, .string ⟨#[39]⟩, .string ⟨#[92, 39]⟩, .string ⟨#[10]⟩, .string ⟨#[92, 110]⟩]
/-- The six pairs' cells at the head of a row. -/
def Six (w : World) (g : Nat) : Prop := ∀ i u, pairs[i]? = some u → w.cell? ⟨g, i, none⟩ = some u
theorem Six.below {w w1 : World} {g : Nat} (h : Six w g) (hb : Below w.heap.size w w1) : Six w1 g := fun i u hu => cell_below hb (h i u hu)

set_option maxRecDepth 100000 in
set_option maxHeartbeats 2000000 in
theorem buildOnce_calls (r g c : Nat) (x0 x1 x2 x3 : Value) (w : World) (hr : w.heap[r]? = some (.cells #[x0, x1, x2, x3, .slice (some ⟨g, 0, none⟩) 6 c] 96 (0, 0))) (hs : Six w g) :
    Calls Tryz.prog 68 #[.pointer (some ⟨r, 0, none⟩)] w fun e w' => e = .returned (.tuple #[]) ∧ ∃ q w1, BInv w.heap.size q w 3 w1 ∧ w' = (w1.setCell ⟨r, 3, none⟩ (.iface 138 (.pointer (some ⟨q, 0, none⟩)))).setCell ⟨r, 4, none⟩ (.slice none 0 0) := by
  have h4 : w.cell? ⟨r, 4, none⟩ = some (.slice (some ⟨g, 0, none⟩) 6 c) := cell_of_row _ _ 4 _ _ _ hr
  have HR := Lib.hid hr
  have HS := Lib.hid hs
  have hrl : r < w.heap.size := (Array.getElem?_eq_some_iff.1 hr).1
  clear hr hs
  go_enter Tryz.func68, Tryz.ntmps68
  go_wp2_with fail
  refine (build_calls r g c w h4 (HS.out 0 _ rfl) (HS.out 1 _ rfl) (HS.out 2 _ rfl) (HS.out 3 _ rfl) (HS.out 4 _ rfl) (HS.out 5 _ rfl)).mono ?_
  rintro e w1 ⟨q, rfl, hI⟩
  have HI := Lib.hid hI
  obtain ⟨v, C, hb, _⟩ := hI
  have hr1 := (hb.block r hrl).trans HR.out
  have c3 : w1.cell? ⟨r, 3, none⟩ = some x3 := cell_of_row _ _ 3 _ _ _ hr1
  have c4 : w1.cell? ⟨r, 4, none⟩ = some (.slice (some ⟨g, 0, none⟩) 6 c) := cell_of_row _ _ 4 _ _ _ hr1
  have f3 : w1.frozen? ⟨r, 3, none⟩ = false := by simp [World.frozen?, hr1]
  have f4 : w1.frozen? ⟨r, 4, none⟩ = false := by simp [World.frozen?, hr1]
  clear hb hr1 h4
  go_wp2_with fail
  go_end0
  exact ⟨rfl, _, _, HI.out, rfl⟩

/-- What the once's road leaves. -/
def OnceLeft (r B : Nat) (w1 : World) (q : Nat) : World :=
  ((((w1.setCell ⟨r, 3, none⟩ (.iface 138 (.pointer (some ⟨q, 0, none⟩)))).setCell ⟨r, 4, none⟩ (.slice none 0 0)).drew.setCell ⟨r, 0, none⟩ (.int .u32 1)).setCell ⟨r, 1, none⟩ (.int .i32 0))
def OncePost (r : Nat) (w : World) (e : Ending) (w' : World) : Prop := e = .returned (.tuple #[]) ∧ ∃ q w1, BInv w.heap.size q (w.setCell ⟨r, 1, none⟩ (.int .i32 1)) 3 w1 ∧ w' = OnceLeft r w.heap.size w1 q

set_option maxRecDepth 100000 in
set_option maxHeartbeats 2000000 in
theorem slow_calls (r g c : Nat) (w : World) (hr : w.heap[r]? = some (.cells #[.int .u32 0, .int .i32 0, .int .u32 0, .nilIface, .slice (some ⟨g, 0, none⟩) 6 c] 96 (0, 0))) (hs : Six w g) (hne : g ≠ r) :
    Calls Tryz.prog 80 #[.pointer (some ⟨r, 0, none⟩), .func (.func 68) #[.pointer (some ⟨r, 0, none⟩)] #[]] w (OncePost r w) := by
  have h1 : w.cell? ⟨r, 1, none⟩ = some (.int .i32 0) := cell_of_row _ _ 1 _ _ _ hr
  have f1 : w.frozen? ⟨r, 1, none⟩ = false := by simp [World.frozen?, hr]
  have hr1 : (w.setCell ⟨r, 1, none⟩ (.int .i32 1)).heap[r]? = some (.cells #[.int .u32 0, .int .i32 1, .int .u32 0, .nilIface, .slice (some ⟨g, 0, none⟩) 6 c] 96 (0, 0)) := setb_block _ hr
  have hs1 : Six (w.setCell ⟨r, 1, none⟩ (.int .i32 1)) g := fun i u hu => (World.cell?_setCell_other _ _ _ _ (fun e => hne (congrArg Addr.block e).symm)).trans (hs i u hu)
  have hl := run_call_load (P := Tryz.prog) Tryz.func92 (by kernel_rfl) (by kernel_rfl) (by kernel_rfl) .u32 (by kernel_rfl) (w := w.setCell ⟨r, 1, none⟩ (.int .i32 1)) (a := ⟨r, 0, none⟩) (x := 0) (cell_of_row _ _ 0 _ _ _ hr1)
  have hnot : ∀ (x : Bool) (w : World), (Op.unary .not (.bool x)).run Tryz.prog w = .ok (.bool (!x)) w := fun _ _ => rfl
  have HR1 := Lib.hid hr1
  have HS1 := Lib.hid hs1
  have hrl : r < w.heap.size := (Array.getElem?_eq_some_iff.1 hr).1
  clear hr hs hr1 hs1
  go_enter_defers Tryz.func80, Tryz.ntmps80
  go_wp2_with (go_at_call 93; refine (lock_free ⟨r, 1, none⟩ _ (by go_simp) (by go_simp)).mono ?_; rintro e w' ⟨rfl, rfl⟩)
  go_wp2_with (first | (go_at_call 79; go_in) | (go_at_call 68; refine (buildOnce_calls r g c _ _ _ _ _ HR1.out HS1.out).mono ?_; rintro e w' ⟨rfl, q, w1, hI, rfl⟩; have HI := Lib.hid hI; clear hI))
  have hI' := HI.out
  rw [World.size_setCell] at hI'
  have HI := Lib.hid hI'
  clear hI'
  obtain ⟨v, C, hb, _⟩ := HI.out
  have hw1 := (hb.block r hrl).trans HR1.out
  have hM := setb_block (j := 4) (.slice none 0 0) (setb_block (j := 3) (.iface 138 (.pointer (some ⟨q, 0, none⟩))) hw1)
  obtain ⟨M, hMe⟩ : ∃ M, (w1.setCell ⟨r, 3, none⟩ (.iface 138 (.pointer (some ⟨q, 0, none⟩)))).setCell ⟨r, 4, none⟩ (.slice none 0 0) = M := ⟨_, rfl⟩
  have HP : ∀ e w', e = .returned (.tuple #[]) → w' = (M.drew.setCell ⟨r, 0, none⟩ (.int .u32 1)).setCell ⟨r, 1, none⟩ (.int .i32 0) → OncePost r w e w' := fun e w' he hw' => ⟨he, q, w1, HI.out, by rw [hw', ← hMe]; rfl⟩
  rw [hMe] at hM ⊢
  have m0 : M.cell? ⟨r, 0, none⟩ = some (.int .u32 0) := cell_of_row _ _ 0 _ _ _ hM
  have m1 : M.cell? ⟨r, 1, none⟩ = some (.int .i32 1) := cell_of_row _ _ 1 _ _ _ hM
  have n0 : M.frozen? ⟨r, 0, none⟩ = false := by simp [World.frozen?, hM]
  have n1 : M.frozen? ⟨r, 1, none⟩ = false := by simp [World.frozen?, hM]
  clear hMe hM hw1 hb
  refine leaves_cons (f := 95) (args := #[.pointer (some ⟨r, 0, none⟩), .bool true]) (by simp) (by simp [go_sem]) ?_
  refine (store_deferred ⟨r, 0, none⟩ (.int .u32 0) .returning _ m0 n0).mono ?_
  rintro e u' w'' ⟨rfl, rfl, rfl⟩
  refine leaves_cons (f := 94) (args := #[.pointer (some ⟨r, 1, none⟩)]) (by simp [settle]) (by simp [go_sem]) ?_
  refine (unlock_deferred ⟨r, 1, none⟩ _ _ ?_ (by simp [n1])).mono ?_
  · refine (World.cell?_setCell_other _ ⟨r, 0, none⟩ ⟨r, 1, none⟩ _ (by simp)).trans ?_
    rw [World.cell?_drew]
    exact m1
  rintro e u' w'' ⟨rfl, rfl, rfl⟩
  have := HP (.returned (.tuple #[])) _ rfl rfl
  simpa [Leaves, settle, results, Tryz.results80] using this

set_option maxRecDepth 100000 in
set_option maxHeartbeats 2000000 in
theorem do_calls (r g c : Nat) (w : World) (hr : w.heap[r]? = some (.cells #[.int .u32 0, .int .i32 0, .int .u32 0, .nilIface, .slice (some ⟨g, 0, none⟩) 6 c] 96 (0, 0))) (hs : Six w g) (hne : g ≠ r) :
    Calls Tryz.prog 67 #[.pointer (some ⟨r, 0, none⟩), .func (.func 68) #[.pointer (some ⟨r, 0, none⟩)] #[]] w (OncePost r w) := by
  have hl := run_call_load (P := Tryz.prog) Tryz.func92 (by kernel_rfl) (by kernel_rfl) (by kernel_rfl) .u32 (by kernel_rfl) (w := w) (a := ⟨r, 0, none⟩) (x := 0) (cell_of_row _ _ 0 _ _ _ hr)
  have hnot : ∀ (x : Bool) (w : World), (Op.unary .not (.bool x)).run Tryz.prog w = .ok (.bool (!x)) w := fun _ _ => rfl
  have HR := Lib.hid hr
  have HS := Lib.hid hs
  clear hr hs
  go_enter Tryz.func67, Tryz.ntmps67
  go_wp2_with (first | (go_at_call 79; go_in) | (go_at_call 80; refine (slow_calls r g c _ HR.out HS.out hne).mono ?_; rintro e w' ⟨rfl, q, w1, hI, rfl⟩; have HI := Lib.hid hI; clear hI))
  go_end0
  exact ⟨rfl, _, _, HI.out, rfl⟩

/-- The replacer as the once's road leaves it. -/
theorem onceLeft_block {r B q : Nat} {w1 : World} {x0 x1 x2 x3 x4 : Value} (hr : w1.heap[r]? = some (.cells #[x0, x1, x2, x3, x4] 96 (0, 0))) :
    (OnceLeft r B w1 q).heap[r]? = some (.cells #[.int .u32 1, .int .i32 0, x2, .iface 138 (.pointer (some ⟨q, 0, none⟩)), .slice none 0 0] 96 (0, 0)) := by
  unfold OnceLeft
  have h1 := setb_block (j := 4) (.slice none 0 0) (setb_block (j := 3) (.iface 138 (.pointer (some ⟨q, 0, none⟩))) hr)
  exact setb_block (j := 1) (.int .i32 0) (setb_block (W := ((w1.setCell ⟨r, 3, none⟩ (.iface 138 (.pointer (some ⟨q, 0, none⟩)))).setCell ⟨r, 4, none⟩ (.slice none 0 0)).drew) (j := 0) (.int .u32 1) h1)
theorem onceLeft_far {r B q k : Nat} {w1 : World} {x : Obj} (h : w1.heap[k]? = some x) (hne : k ≠ r) : (OnceLeft r B w1 q).heap[k]? = some x := by
  unfold OnceLeft
  exact far_block _ (far_block (W := ((w1.setCell ⟨r, 3, none⟩ (.iface 138 (.pointer (some ⟨q, 0, none⟩)))).setCell ⟨r, 4, none⟩ (.slice none 0 0)).drew) _ (far_block _ (far_block _ h hne) hne) hne) hne
theorem onceLeft_below {r B B' q : Nat} {w w1 : World} (h : Below B' w w1) (hr : B' ≤ r) : Below B' w (OnceLeft r B w1 q) := by
  unfold OnceLeft
  exact ((((h.setCell hr _).setCell hr _).drew).setCell hr _).setCell hr _
end Go.Proofs.YtdfjhhhbkgelaaaGreatDoor.V
