/- (*parser).clause$1: a body's literal is appended. -/
import Derived.Test.YthhfjimhfehimaaDoorLitA
namespace Go.Proofs.YthhfjimhfehimaaDoor.V
set_option linter.unusedVariables false
set_option linter.unusedSimpArgs false
open Go.RowKit

def litCells (ps : List (LitL × Value)) : List Value := ps.flatMap fun p => litC p.1 p.2
theorem litCells_snoc (ps : List (LitL × Value)) (p : LitL × Value) : litCells (ps ++ [p]) = litCells ps ++ litC p.1 p.2 := by simp [litCells]
theorem lit_info : (Tryd.prog.info? 43).map (fun i => (i.zero, i.size, i.bytes)) = some (some (.agg #[.int .i64 0, .string ⟨#[]⟩, .slice none 0 0, .string ⟨#[]⟩, .bool false, .string ⟨#[]⟩, .bool false, .string ⟨#[]⟩, .int .i64 0, .bool false, .string ⟨#[]⟩, .bool false, .string ⟨#[]⟩, .int .i64 0]), 14, 176) := by kernel_rfl
/-- A slice of literals, as it lies. -/
def LitsAt (base : Nat) (W : World) (l : List LitL) (v : Value) : Prop := ∃ ps : List (LitL × Value), ps.map (·.1) = l ∧ W.ownsRow base 43 14 v ps.length (litCells ps) ∧ ∀ p ∈ ps, TermsAt base W p.1.a.a p.2
theorem LitsAt.kept {base : Nat} {W W' : World} {l : List LitL} {v : Value} {row : Option Nat} (h : LitsAt base W l v) (hg : W.grownBy W' row) (hr : ∀ k, row = some k → k < base ∨ ∃ C t m, W.heap[k]? = some (.cells C t m) ∧ t ≠ 41 ∧ t ≠ 43) : LitsAt base W' l v := by
  obtain ⟨ps, h1, h2, h3⟩ := h
  refine ⟨ps, h1, h2.kept hg ?_, fun p hp => (h3 p hp).kept hg (fun k hk => ?_)⟩
  · cases hv : v.ownBlock with
    | none => exact .inl rfl
    | some g =>
      refine .inr (fun he => ?_)
      rcases hr g he.symm with h | ⟨C, t, m, hc, ht, ht2⟩
      · have := o_from h2 g hv
        omega
      · exact o_ne h2 hc (fun e => ht2 e.symm) hv.symm
  · rcases hr k hk with h | ⟨C, t, m, hc, ht, ht2⟩
    · exact .inl h
    · exact .inr ⟨C, t, m, hc, ht⟩
theorem TermsAt.base {B B' : Nat} {W : World} {l : List TermL} {v : Value} (h : TermsAt B W l v) (hB : B' ≤ B) : TermsAt B' W l v := o_base h hB

/-- What the closure of clause keeps. -/
structure BodyJ (P Rb Pb : Nat) (p : ByteArray) (va : Value) (w0 w : World) (acc : List LitL) : Prop where
  g : w0.grownBy w (some P)
  a : ∃ v, w.heap[Rb]? = some (.cells #[.string p, va, v] 36 (0, 0)) ∧ LitsAt w0.heap.size w acc v
  b : w.heap[Pb]? = some (.cells #[.pointer (some ⟨P, 0, none⟩)] 48 (0, 0))
theorem BodyJ.step {P Rb Pb : Nat} {p : ByteArray} {va : Value} {w0 w w' : World} {acc : List LitL} (h : BodyJ P Rb Pb p va w0 w acc) (hA : w0.heap.size ≤ Rb) (hB : Pb ≠ P) (hP : P < w0.heap.size) (hg : w.grownBy w' (some P)) : BodyJ P Rb Pb p va w0 w' acc := by
  obtain ⟨g, ⟨v, a1, a2⟩, b⟩ := h
  exact ⟨grown_trans g hg, ⟨v, blk_keep a1 hg (by simp; omega), a2.kept hg (fun k e => by cases e; exact .inl hP)⟩, blk_keep b hg (by simpa using hB)⟩

theorem en_body : ∀ args w, (callFunc 25 args).run Tryd.prog w = .ok (.enter 25 args) w := enters_of Tryd.func25 (by kernel_rfl) rfl

set_option maxRecDepth 100000 in
set_option maxHeartbeats 8000000 in
theorem body_calls {P Rb Pb : Nat} {p : ByteArray} {va : Value} {L : List TP} {N : Nat} {A : Option Addr} {c : Nat} {r : List TP} (w0 w : World) (acc : List LitL) (hP : P < w0.heap.size) (hA : w0.heap.size ≤ Rb) (hB : Pb ≠ P) (hl : acc.length ≤ 100) (hmax : ∀ p ∈ L, p.1.s.length ≤ 65536) (h : PO P L N A c r w) (hj : BodyJ P Rb Pb p va w0 w acc) :
    Calls Tryd.prog 25 #[.pointer (some ⟨Rb, 0, none⟩), .pointer (some ⟨Pb, 0, none⟩)] w fun e w' => e = .returned (.tuple #[]) ∧ ∃ x, BodyJ P Rb Pb p va w0 w' (acc ++ [x]) ∧ PGot P L N A c 65700 (litP N r) (fun y => y = x) w' := by
  obtain ⟨i0, hi, hz0, hz1, hz2⟩ := info_parts lit_info
  obtain ⟨g, ⟨v, a1, ps, hps, ho, hts⟩, b⟩ := hj
  obtain ⟨A1, c1, rfl⟩ := o_slice ho
  have hlen : ps.length = acc.length := by rw [← hps]; simp
  have s1 : w.cell? ⟨Rb, 2, none⟩ = some (.slice A1 ps.length c1) := cell_of_row w Rb 2 _ _ _ a1
  have sb : w.cell? ⟨Pb, 0, none⟩ = some (.pointer (some ⟨P, 0, none⟩)) := cell_of_row w Pb 0 _ _ _ b
  have H := Lib.hid h
  have HMAX := Lib.hid hmax
  have HA1 := Lib.hid a1
  have HA2 := Lib.hid ho
  have HTS := Lib.hid hts
  have HPS := Lib.hid hps
  have HLEN := Lib.hid hlen
  have HL := Lib.hid hl
  have HB := Lib.hid b
  have HG := Lib.hid g
  have HPA := Lib.hid hP
  have HHA := Lib.hid hA
  have HHB := Lib.hid hB
  clear h a1 ho hts b g hP hA hB hmax hps hlen hl
  go_enter Tryd.func25, Tryd.ntmps25
  go_wp2_with fail
  go_region_law (first
    | (go_simp; go_at_call 26; (refine (literal_calls _ (H.out.below (Below.refl _ _).drew) HMAX.out).mono ?_); rintro e W1 ⟨hg1, x, vx, he, htx, hgot⟩; obtain ⟨A2, c2, rfl⟩ := o_slice htx; have he2 : e = .returned (.agg #[.int .i64 (x.k : Int), .string (bs x.a.p), .slice A2 x.a.a.length c2, .string (bs x.o), .bool x.l.v, .string (bs x.l.x), .bool x.l.s, .string (bs x.l.t), .int .i64 x.l.n, .bool x.r.v, .string (bs x.r.x), .bool x.r.s, .string (bs x.r.t), .int .i64 x.r.n]) := he; subst he2; clear he; have hg1' := un_drew hg1; have ha1 := blk_keep HA1.out hg1' (by have := HHA.out; have := HPA.out; simp; omega); have hs1 : W1.cell? ⟨Rb, 2, none⟩ = some (.slice A1 ps.length c1) := cell_of_row W1 Rb 2 _ _ _ ha1; have hs2 := fun o => cell_below ((Below.refl W1.heap.size W1).alloc (Nat.le_refl _) o) hs1; have HW1 := Lib.hid hg1'; have HGOT := Lib.hid hgot; have HAW := Lib.hid ha1; have HTX := Lib.hid (TermsAt.base htx (show w0.heap.size ≤ w.drew.heap.size from HG.out.size)); have HA3 := Lib.hid (HA2.out.kept hg1' (by cases hv : Value.ownBlock (.slice A1 ps.length c1) with | none => exact .inl rfl | some j => exact .inr (fun e => by have := o_from HA2.out j hv; have := HPA.out; cases e; omega))); have hsz := hg1'.size; have hsz0 := HG.out.size; have HB1 := Lib.hid (blk_keep HB.out hg1' (by simpa using HHB.out)); clear hg1 hg1' hgot ha1 htx)
    | (refine step_append_lies _ rfl (.tmp 3) (.tmp 6) 34 rfl w0.heap.size 43 i0 (.agg #[.int .i64 0, .string ⟨#[]⟩, .slice none 0 0, .string ⟨#[]⟩, .bool false, .string ⟨#[]⟩, .bool false, .string ⟨#[]⟩, .int .i64 0, .bool false, .string ⟨#[]⟩, .bool false, .string ⟨#[]⟩, .int .i64 0]) 14 176 Tryd.underlying34 hi hz0 hz1 hz2 ?_ ?_ (.slice A1 ps.length c1) ps.length (litCells ps) ?_ ?_ ⟨W1.heap.size, 0, none⟩ 1 1 (litC x (.slice A2 x.a.a.length c2)) ?_ ?_ ?_ ?_ ?_ ?_ ?_ ?_ _ rfl ?_; rfl; decide; rfl; exact HA3.out.alloc _; rfl; rfl; exact o_cells #[.int .i64 (x.k : Int), .string (bs x.a.p), .slice A2 x.a.a.length c2, .string (bs x.o), .bool x.l.v, .string (bs x.l.x), .bool x.l.s, .string (bs x.l.t), .int .i64 x.l.n, .bool x.r.v, .string (bs x.r.x), .bool x.r.s, .string (bs x.r.t), .int .i64 x.r.n] 43; (intro u hu; simp [litC] at hu; rcases hu with rfl | rfl | rfl | rfl | rfl | rfl | rfl | rfl | rfl | rfl | rfl | rfl | rfl | rfl <;> rfl); decide; (have := HLEN.out; have := HL.out; unfold maxLen; omega); (have := HLEN.out; have := HL.out; omega); (simp; omega); intro g cap W3 hown hgrow hat hlt; have hgW := grown_trans (World.grownBy_alloc W1 (.cells #[.int .i64 (x.k : Int), .string (bs x.a.p), .slice A2 x.a.a.length c2, .string (bs x.o), .bool x.l.v, .string (bs x.l.x), .bool x.l.s, .string (bs x.l.t), .int .i64 x.l.n, .bool x.r.v, .string (bs x.r.x), .bool x.r.s, .string (bs x.r.t), .int .i64 x.r.n] 43) _) hgrow; have ha3 := blk_keep HAW.out hgW (o_ne HA3.out HAW.out (by decide)); have hs3 : W3.cell? ⟨Rb, 2, none⟩ = some (.slice A1 ps.length c1) := cell_of_row W3 Rb 2 _ _ _ ha3; have hf3 := frozen_of_row W3 Rb 2 _ _ ha3; have HA4 := Lib.hid ha3; have HOWN := Lib.hid hown; have HGW := Lib.hid hgW; clear hown hgrow hat hlt hgW ha3))
  all_goals
    have hAne : Rb ≠ Pb := fun he => by
      have h1 := HAW.out
      rw [he, HB1.out] at h1
      injection h1 with h1
      injection h1 with _ h2 _
      exact absurd h2 (by decide)
    have hown := HOWN.out
    rw [← litCells_snoc ps (x, Value.slice A2 x.a.a.length c2)] at hown
    have hne3 := o_ne hown HA4.out (by decide)
    have hgS := grown_set (World.grownBy.refl W3 (some Rb)) 2 (.slice (some ⟨g, 0, none⟩) (ps.length + 1) cap)
    have hb3 := blk_keep HB1.out HGW.out (o_ne HA3.out HB1.out (by decide))
    have hkeep : ∀ l u, TermsAt w0.heap.size W1 l u → TermsAt w0.heap.size (W3.setCell ⟨Rb, 2, none⟩ (.slice (some ⟨g, 0, none⟩) (ps.length + 1) cap)) l u := fun l u ht =>
      (ht.kept HGW.out (fun k hk => by obtain ⟨C, t, m, hc, ht⟩ := o_block HA3.out k hk; exact .inr ⟨C, t, m, hc, by rw [ht]; decide⟩)).kept hgS (fun k hk => by cases hk; exact .inr ⟨_, _, _, HA4.out, by decide⟩)
    go_end0
    refine ⟨rfl, x, ⟨?_, ⟨_, set_block HA4.out _, ps ++ [(x, Value.slice A2 x.a.a.length c2)], ?_, ?_, ?_⟩, ?_⟩, ?_⟩
    · exact grown_setNew (o_grown (grown_trans HG.out HW1.out) HGW.out (fun j hj => o_from HA3.out j hj)) HHA.out _ _
    · rw [List.map_append, HPS.out]
      rfl
    · refine World.ownsRow.kept (n := (ps ++ [(x, Value.slice A2 x.a.a.length c2)]).length) ?_ hgS (.inr (Ne.symm hne3))
      rw [List.length_append, List.length_singleton]
      exact hown
    · intro p hp
      rcases List.mem_append.1 hp with hp | hp
      · exact hkeep _ _ ((HTS.out p hp).kept HW1.out (fun k hk => by cases hk; exact .inl HPA.out))
      · rw [List.mem_singleton.1 hp]
        exact hkeep _ _ HTX.out
    · exact blk_keep hb3 hgS (by simp; exact fun e => hAne e.symm)
    · refine PGot.step (PGot.step HGOT.out HGW.out (fun k hk => ⟨by have := o_from HA3.out k hk; have := HPA.out; omega, ?_⟩)) hgS (fun k hk => ?_)
      · obtain ⟨C, t, m, hc, ht⟩ := o_block HA3.out k hk
        exact ⟨C, t, m, hc, by rw [ht]; decide⟩
      · cases hk
        exact ⟨by have := HPA.out; have := HHA.out; omega, _, _, _, HA4.out, by decide⟩
end Go.Proofs.YthhfjimhfehimaaDoor.V
