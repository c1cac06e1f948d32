/- lambrequinlaw06.shown: the document's example. -/
import Derived.Test.YthhfjimhfehimaaDoorPAtom
import Derived.KernelRfl
namespace Go.Proofs.YthhfjimhfehimaaDoor.V
set_option linter.unusedVariables false
set_option linter.unusedSimpArgs false
open Go.RowKit

/-- A row's cells. -/
theorem o_at {W : World} {B e z n : Nat} {A : Option Addr} {c : Nat} {xs : List Value} (h : W.ownsRow B e z (.slice A n c) n xs) (hn : 0 < n) : ∃ g, A = some ⟨g, 0, none⟩ ∧ ∀ j u, xs[j]? = some u → W.cell? ⟨g, j, none⟩ = some u := by
  rcases h.2 with ⟨_, h0⟩ | ⟨g, cap, cur, hv, _, hk, _, _, _, hcur⟩
  · omega
  · injection hv with hA _ _
    refine ⟨g, hA, fun j u hu => ?_⟩
    have hlt := (List.getElem?_eq_some_iff.1 hu).1
    rw [cell_of_row W g j cur _ _ hk]
    rw [← hcur, List.getElem?_take_of_lt (by rw [← h.1]; exact hlt)] at hu
    simpa using hu

def exL : List UInt8 := [112, 40, 88, 41, 32, 58, 45, 32, 113, 40, 88, 44, 32, 97, 41, 44, 32, 110, 111, 116, 32, 114, 40, 88, 41, 44, 32, 88, 32, 60, 32, 51, 46]
def vX : TermL := ⟨true, [88], false, [], 0⟩
def exB : List LitL := [⟨1, ⟨[113], [vX, ⟨false, [], true, [97], 0⟩]⟩, [], term0, term0⟩, ⟨2, ⟨[114], [vX]⟩, [], term0, term0⟩, ⟨3, atom0, [60], vX, ⟨false, [], false, [], 3⟩⟩]
theorem ex_parse : parseL exL = .ok ([], [⟨⟨[112], [vX]⟩, exB⟩]) := by kernel_rfl
theorem ex_facts {base : Nat} {W : World} {vd vr : Value} (hd : DeclsAt base W [] vd) (hr : RulesAt base W [⟨⟨[112], [vX]⟩, exB⟩] vr) :
    ∃ Ad cd gr cr gb cb, vd = .slice Ad 0 cd ∧ vr = .slice (some ⟨gr, 0, none⟩) 1 cr ∧ W.cell? ⟨gr, 2, none⟩ = some (.slice (some ⟨gb, 0, none⟩) 3 cb) ∧ W.cell? ⟨gb, 0, none⟩ = some (.int .i64 1) ∧ W.cell? ⟨gb, 14, none⟩ = some (.int .i64 2) ∧ W.cell? ⟨gb, 28, none⟩ = some (.int .i64 3) ∧ W.cell? ⟨gb, 31, none⟩ = some (.string ⟨#[60]⟩) ∧ W.cell? ⟨gb, 41, none⟩ = some (.int .i64 3) := by
  obtain ⟨Ad, cd, rfl⟩ := o_slice hd
  obtain ⟨qs, hq, ho, hqs⟩ := hr
  obtain ⟨Ar, cr, rfl⟩ := o_slice ho
  match qs, hq with
  | [(q, va, vb)], hq =>
    simp only [List.map_cons, List.map_nil, List.cons.injEq, and_true] at hq
    subst hq
    obtain ⟨gr, rfl, hcr⟩ := o_at ho (by simp)
    obtain ⟨_, ps, hp, hop, _⟩ := hqs _ (List.mem_singleton.2 rfl)
    obtain ⟨Ab, cb, rfl⟩ := o_slice hop
    match ps, hp with
    | [(p1, v1), (p2, v2), (p3, v3)], hp =>
      simp only [exB, List.map_cons, List.map_nil, List.cons.injEq, and_true] at hp
      obtain ⟨rfl, rfl, rfl⟩ := hp
      obtain ⟨gb, rfl, hcb⟩ := o_at hop (by simp)
      exact ⟨Ad, cd, gr, cr, gb, cb, rfl, rfl, hcr 2 _ rfl, hcb 0 _ rfl, hcb 14 _ rfl, hcb 28 _ rfl, hcb 31 _ rfl, hcb 41 _ rfl⟩

theorem ex_calls (w : World) (hE : ErrW w) : Calls Tryd.prog 7 #[.string ⟨#[112, 40, 88, 41, 32, 58, 45, 32, 113, 40, 88, 44, 32, 97, 41, 44, 32, 110, 111, 116, 32, 114, 40, 88, 41, 44, 32, 88, 32, 60, 32, 51, 46]⟩] w fun e w' => Below w.heap.size w w' ∧ ∃ Ad cd gr cr gb cb, e = .returned (.tuple #[.agg #[.slice Ad 0 cd, .slice (some ⟨gr, 0, none⟩) 1 cr], .int .i64 0, .int .i64 0]) ∧ w'.cell? ⟨gr, 2, none⟩ = some (.slice (some ⟨gb, 0, none⟩) 3 cb) ∧ w'.cell? ⟨gb, 0, none⟩ = some (.int .i64 1) ∧ w'.cell? ⟨gb, 14, none⟩ = some (.int .i64 2) ∧ w'.cell? ⟨gb, 28, none⟩ = some (.int .i64 3) ∧ w'.cell? ⟨gb, 31, none⟩ = some (.string ⟨#[60]⟩) ∧ w'.cell? ⟨gb, 41, none⟩ = some (.int .i64 3) := by
  refine (parse_calls ⟨#[112, 40, 88, 41, 32, 58, 45, 32, 113, 40, 88, 44, 32, 97, 41, 44, 32, 110, 111, 116, 32, 114, 40, 88, 41, 44, 32, 88, 32, 60, 32, 51, 46]⟩ w (by decide) hE).mono ?_
  rintro e w' ⟨hb, hp⟩
  have he : parseL (⟨#[112, 40, 88, 41, 32, 58, 45, 32, 113, 40, 88, 44, 32, 97, 41, 44, 32, 110, 111, 116, 32, 114, 40, 88, 41, 44, 32, 88, 32, 60, 32, 51, 46]⟩ : ByteArray).data.toList = .ok ([], [⟨⟨[112], [vX]⟩, exB⟩]) := ex_parse
  rw [he] at hp
  obtain ⟨vd, vr, rfl, hd, hr, _, _⟩ := hp
  obtain ⟨Ad, cd, gr, cr, gb, cb, rfl, rfl, h⟩ := ex_facts hd hr
  exact ⟨hb, Ad, cd, gr, cr, gb, cb, rfl, h⟩

set_option maxRecDepth 100000 in
set_option maxHeartbeats 8000000 in
theorem shown6_calls (w : World) (hE : ErrW w) :
    Calls Tryd.prog 6 #[] w fun e w' => e = .returned (.bool true) ∧ Below w.heap.size w w' := by
  have HE := Lib.hid hE
  clear hE
  go_enter Tryd.func6, Tryd.ntmps6
  go_wp2_with (go_at_call 7; ((with_reducible refine (ex_calls _ HE.out).mono ?_); rintro e w1 ⟨hb, Ad, cd, gr, cr, gb, cb, rfl, f1, f2, f3, f4, f5, f6⟩; have g1 := fun o => cell_below ((Below.refl w1.heap.size w1).alloc (Nat.le_refl _) o) f1; have g2 := fun o => cell_below ((Below.refl w1.heap.size w1).alloc (Nat.le_refl _) o) f2; have g3 := fun o => cell_below ((Below.refl w1.heap.size w1).alloc (Nat.le_refl _) o) f3; have g4 := fun o => cell_below ((Below.refl w1.heap.size w1).alloc (Nat.le_refl _) o) f4; have g5 := fun o => cell_below ((Below.refl w1.heap.size w1).alloc (Nat.le_refl _) o) f5; have g6 := fun o => cell_below ((Below.refl w1.heap.size w1).alloc (Nat.le_refl _) o) f6; have HB := Lib.hid hb; clear hb f1 f2 f3 f4 f5 f6))
  go_ret
  exact ⟨rfl, HB.out.alloc HB.out.size _⟩
end Go.Proofs.YthhfjimhfehimaaDoor.V
