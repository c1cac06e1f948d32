/- (*parser).atom and its closure. (*parser).literal. -/
import Derived.Deep.AppendLies
import Derived.Deep.RegionLaw
import Derived.Test.YtminbdcabacfbaaGreatDoorKLines74
namespace Go.Proofs.YtminbdcabacfbaaGreatDoor.V
set_option linter.unusedVariables false
set_option linter.unusedSimpArgs false
open Go.RowKit

def termC (x : TermL) : List Value := [.bool x.v, .string (bs x.x), .bool x.s, .string (bs x.t), .int .i64 x.n]
def termCells (l : List TermL) : List Value := l.flatMap termC
theorem termCells_snoc (l : List TermL) (x : TermL) : termCells (l ++ [x]) = termCells l ++ termC x := by simp [termCells]
theorem trm_info : (Tryz.prog.info? 45).map (fun i => (i.zero, i.size, i.bytes)) = some (some (.agg #[.bool false, .string ⟨#[]⟩, .bool false, .string ⟨#[]⟩, .int .i64 0]), 5, 56) := by kernel_rfl

theorem o_ne {W : World} {B e z n g t : Nat} {v : Value} {xs : List Value} {C : Array Value} {m : Nat × Nat} (h : W.ownsRow B e z v n xs) (hg : W.heap[g]? = some (.cells C t m)) (ht : e ≠ t) : some g ≠ v.ownBlock := by
  rcases h.2 with ⟨rfl, _⟩ | ⟨g', cap, cur, rfl, _, hk, _⟩
  · simp [Value.ownBlock]
  · intro he
    obtain rfl : g = g' := Option.some.inj he
    rw [hk] at hg
    injection hg with hg
    injection hg with _ h2 _
    exact ht h2
theorem o_block {W : World} {B e z n : Nat} {v : Value} {xs : List Value} (h : W.ownsRow B e z v n xs) : ∀ k, v.ownBlock = some k → ∃ C t m, W.heap[k]? = some (.cells C t m) ∧ t = e := by
  intro k hk
  rcases h.2 with ⟨rfl, _⟩ | ⟨g', cap, cur, rfl, _, hg, _⟩
  · cases hk
  · obtain rfl : g' = k := Option.some.inj hk
    exact ⟨_, _, _, hg, rfl⟩
section
variable {P : Nat} {L : List TP} {N : Nat} {A : Option Addr} {c : Nat} {r : List TP} {W W' : World} {a e m : Nat} {row : Option Nat}
theorem PS.grown' {nx : Nat} {pl bad : Int} (h : PS P L N nx pl bad A c W) (hg : W.grownBy W' row) (h1 : some P ≠ row) (h2 : ∀ k, Value.ownBlock (.slice A L.length c) = some k → some k ≠ row) : PS P L N nx pl bad A c W' := by
  refine ⟨(hg.block P h.lt h1).trans h.b, h.o.kept hg ?_, h.n, h.s, h.x⟩
  cases hv : Value.ownBlock (.slice A L.length c) with
  | none => exact .inl rfl
  | some k => exact .inr (h2 k hv)
theorem PS.step {nx : Nat} {pl bad : Int} (h : PS P L N nx pl bad A c W) (hg : W.grownBy W' row) (hr : ∀ k, row = some k → k ≠ P ∧ ∃ C t m, W.heap[k]? = some (.cells C t m) ∧ t ≠ 71) : PS P L N nx pl bad A c W' := by
  refine h.grown' hg ?_ ?_
  · intro he
    exact (hr P he.symm).1 rfl
  · intro k hv he
    obtain ⟨_, C, t, m, hc, ht⟩ := hr k he.symm
    obtain ⟨C', t', m', hc', ht'⟩ := o_block h.o k hv
    rw [hc] at hc'
    injection hc' with hc'
    injection hc' with _ h2 _
    exact ht (h2.trans ht')
theorem PGot.step {α : Type} {g : Par α} {Q : α → Prop} {mm : Nat} (h : PGot P L N A c mm g Q W) (hg : W.grownBy W' row) (hr : ∀ k, row = some k → k ≠ P ∧ ∃ C t m, W.heap[k]? = some (.cells C t m) ∧ t ≠ 71) : PGot P L N A c mm g Q W' := by
  cases g with
  | bad a e =>
    obtain ⟨h0, nx, h1, h3⟩ := h
    exact ⟨h0, nx, h1, h3.step hg hr⟩
  | ok x r =>
    obtain ⟨hq, nx, h1, h2, h3⟩ := h
    exact ⟨hq, nx, h1, h2, h3.step hg hr⟩
end
/-- A slice of terms, as it lies. -/
def TermsAt (base : Nat) (W : World) (l : List TermL) (v : Value) : Prop := W.ownsRow base 45 5 v l.length (termCells l)
/-- A block's turn that holds no terms, or lies lower. -/
theorem TermsAt.kept {base : Nat} {W W' : World} {l : List TermL} {v : Value} {row : Option Nat} (h : TermsAt base W l v) (hg : W.grownBy W' row) (hr : ∀ k, row = some k → k < base ∨ ∃ C t m, W.heap[k]? = some (.cells C t m) ∧ t ≠ 45) : TermsAt base W' l v := by
  refine World.ownsRow.kept h hg ?_
  rcases h.2 with ⟨rfl, _⟩ | ⟨g, cap, cur, rfl, hb, hk, _⟩
  · exact .inl rfl
  · refine .inr (fun he => ?_)
    rcases hr g he.symm with h1 | ⟨C, t, m, hc, ht⟩
    · omega
    · rw [hk] at hc
      injection hc with hc
      injection hc with _ h2 _
      exact ht h2.symm
theorem TermsAt.below {base : Nat} {W W' : World} {l : List TermL} {v : Value} (h : TermsAt base W l v) (hb : Below W.heap.size W W') : TermsAt base W' l v := h.kept (grown_below hb none) (fun k e => by cases e)

/-- What the closure of atom keeps: the atom's block, its terms', the box of the parser's address. -/
structure ArgJ (P Ab Pb : Nat) (p : ByteArray) (w0 w : World) (acc : List TermL) : Prop where
  g : w0.grownBy w (some P)
  a : ∃ v, w.heap[Ab]? = some (.cells #[.string p, v] 25 (0, 0)) ∧ TermsAt w0.heap.size w acc v ∧ (acc = [] → v = .slice none 0 0)
  b : w.heap[Pb]? = some (.cells #[.pointer (some ⟨P, 0, none⟩)] 61 (0, 0))
theorem ArgJ.step {P Ab Pb : Nat} {p : ByteArray} {w0 w w' : World} {acc : List TermL} (h : ArgJ P Ab Pb p w0 w acc) (hA : w0.heap.size ≤ Ab) (hB : Pb ≠ P) (hP : P < w0.heap.size) (hg : w.grownBy w' (some P)) : ArgJ P Ab Pb p w0 w' acc := by
  obtain ⟨g, ⟨v, a1, a2, a3⟩, b⟩ := h
  exact ⟨grown_trans g hg, ⟨v, (hg.block Ab (Array.getElem?_eq_some_iff.1 a1).1 (by simp; omega)).trans a1, a2.kept hg (fun k e => by cases e; exact .inl hP), a3⟩, (hg.block Pb (Array.getElem?_eq_some_iff.1 b).1 (by simpa using hB)).trans b⟩

theorem en_arg : ∀ args w, (callFunc 63 args).run Tryz.prog w = .ok (.enter 63 args) w := enters_of Tryz.func63 (by kernel_rfl) rfl

set_option maxRecDepth 100000 in
set_option maxHeartbeats 8000000 in
theorem arg_calls {P Ab Pb : Nat} {p : ByteArray} {L : List TP} {N : Nat} {A : Option Addr} {c : Nat} {r : List TP} (w0 w : World) (acc : List TermL) (hP : P < w0.heap.size) (hA : w0.heap.size ≤ Ab) (hB : Pb ≠ P) (hl : acc.length ≤ 100) (h : PO P L N A c r w) (hj : ArgJ P Ab Pb p w0 w acc) :
    Calls Tryz.prog 63 #[.pointer (some ⟨Ab, 0, none⟩), .pointer (some ⟨Pb, 0, none⟩)] w fun e w' => e = .returned (.tuple #[]) ∧ ∃ x, ArgJ P Ab Pb p w0 w' (acc ++ [x]) ∧ PGot P L N A c 65537 (termP N r) (fun y => y = x) w' := by
  obtain ⟨i0, hi, hz0, hz1, hz2⟩ := info_parts trm_info
  obtain ⟨g, ⟨v, a1, a2, a3⟩, b⟩ := hj
  obtain ⟨A1, c1, rfl⟩ := o_slice a2
  have s1 : w.cell? ⟨Ab, 1, none⟩ = some (.slice A1 acc.length c1) := cell_of_row w Ab 1 _ _ _ a1
  have sb : w.cell? ⟨Pb, 0, none⟩ = some (.pointer (some ⟨P, 0, none⟩)) := cell_of_row w Pb 0 _ _ _ b
  have H := Lib.hid h
  have HA1 := Lib.hid a1
  have HA2 := Lib.hid a2
  have HB := Lib.hid b
  have HG := Lib.hid g
  have HPA := Lib.hid hP
  have HHA := Lib.hid hA
  have HHB := Lib.hid hB
  clear h a1 a2 a3 b g hP hA hB
  go_enter Tryz.func63, Tryz.ntmps63
  go_wp2_with fail
  go_region_law (first
    | (go_simp; go_at_call 64; (refine (term_calls _ (H.out.below (Below.refl _ _).drew)).mono ?_); rintro e W1 ⟨hg1, x, rfl, hgot⟩; unfold termA; have hg1' := un_drew hg1; have ha1 := (hg1'.block Ab (Array.getElem?_eq_some_iff.1 HA1.out).1 (by have := HHA.out; have := HPA.out; simp; omega)).trans HA1.out; have hs1 : W1.cell? ⟨Ab, 1, none⟩ = some (.slice A1 acc.length c1) := cell_of_row W1 Ab 1 _ _ _ ha1; have hs2 := fun o => cell_below ((Below.refl W1.heap.size W1).alloc (Nat.le_refl _) o) hs1; have HW1 := Lib.hid hg1'; have HGOT := Lib.hid hgot; have HAW := Lib.hid ha1; have HA3 := Lib.hid (HA2.out.kept hg1' (fun k e => by cases e; exact .inl HPA.out)); have hsz := hg1'.size; have hsz0 := HG.out.size; have HB1 := Lib.hid ((hg1'.block Pb (Array.getElem?_eq_some_iff.1 HB.out).1 (by simpa using HHB.out)).trans HB.out); clear hg1 hg1' hgot ha1)
    | (refine step_append_lies _ rfl (.tmp 3) (.tmp 6) 23 rfl w0.heap.size 45 i0 (.agg #[.bool false, .string ⟨#[]⟩, .bool false, .string ⟨#[]⟩, .int .i64 0]) 5 56 Tryz.underlying23 hi hz0 hz1 hz2 ?_ ?_ (.slice A1 acc.length c1) acc.length (termCells acc) ?_ ?_ ⟨W1.heap.size, 0, none⟩ 1 1 (termC x) ?_ ?_ ?_ ?_ ?_ ?_ ?_ ?_ _ rfl ?_; rfl; decide; rfl; exact HA3.out.alloc _; rfl; rfl; exact o_cells #[.bool x.v, .string (bs x.x), .bool x.s, .string (bs x.t), .int .i64 x.n] 45; (intro u hu; simp [termC] at hu; rcases hu with rfl | rfl | rfl | rfl | rfl <;> rfl); decide; (unfold maxLen; omega); omega; (simp; omega); intro g cap W3 hown hgrow hat hlt; have hgW := grown_trans (World.grownBy_alloc W1 (.cells #[.bool x.v, .string (bs x.x), .bool x.s, .string (bs x.t), .int .i64 x.n] 45) _) hgrow; have ha3 := (hgW.block Ab (Array.getElem?_eq_some_iff.1 HAW.out).1 (o_ne HA3.out HAW.out (by decide))).trans HAW.out; have hs3 : W3.cell? ⟨Ab, 1, none⟩ = some (.slice A1 acc.length c1) := cell_of_row W3 Ab 1 _ _ _ ha3; have hf3 := frozen_of_row W3 Ab 1 _ _ ha3; have HA4 := Lib.hid ha3; have HOWN := Lib.hid hown; have HGW := Lib.hid hgW; clear hown hgrow hat hlt hgW ha3))
  all_goals
    have hAne : Ab ≠ Pb := fun he => by
      have h1 := HAW.out
      rw [he, HB1.out] at h1
      injection h1 with h1
      injection h1 with _ h2 _
      exact absurd h2 (by decide)
    have hown := HOWN.out
    rw [← termCells_snoc] at hown
    have hne3 := o_ne hown HA4.out (by decide)
    have hgS := grown_set (World.grownBy.refl W3 (some Ab)) 1 (.slice (some ⟨g, 0, none⟩) (acc.length + 1) cap)
    have hb3 := (HGW.out.block Pb (Array.getElem?_eq_some_iff.1 HB1.out).1 (o_ne HA3.out HB1.out (by decide))).trans HB1.out
    go_end0
    refine ⟨rfl, x, ⟨?_, ⟨_, set_block HA4.out _, ?_, fun e => by simp at e⟩, ?_⟩, ?_⟩
    · exact grown_setNew (o_grown (grown_trans HG.out HW1.out) HGW.out (fun j hj => by have := o_from HA3.out j hj; exact this)) HHA.out _ _
    · refine World.ownsRow.kept (n := (acc ++ [x]).length) ?_ hgS (.inr (Ne.symm hne3))
      rw [List.length_append, List.length_singleton]
      exact hown
    · exact (hgS.block Pb (Array.getElem?_eq_some_iff.1 hb3).1 (by simp; exact fun e => hAne e.symm)).trans hb3
    · refine PGot.step (PGot.step HGOT.out HGW.out (fun k hk => ⟨by have := o_from HA3.out k hk; have := HPA.out; omega, ?_⟩)) hgS (fun k hk => ?_)
      · obtain ⟨C, t, m, hc, ht⟩ := o_block HA3.out k hk
        exact ⟨C, t, m, hc, by rw [ht]; decide⟩
      · cases hk
        exact ⟨by have := HPA.out; have := HHA.out; omega, _, _, _, HA4.out, by decide⟩
-- THE WALK OF ATOM
theorem PGot.isBad {α : Type} {P : Nat} {L : List TP} {N : Nat} {A : Option Addr} {c mm a e : Nat} {W : World} {Q : α → Prop} (h : PGot P L N A c mm (.bad a e) Q W) : PB P L N A c a e mm W := h
theorem PGot.isOk {α : Type} {P : Nat} {L : List TP} {N : Nat} {A : Option Addr} {c mm : Nat} {x : α} {r : List TP} {W : World} {Q : α → Prop} (h : PGot P L N A c mm (.ok x r) Q W) : Q x ∧ PO P L N A c r W := h
/-- A state is the same behind a store into a newer block that holds no tokens. -/
theorem PGot.setNew {α : Type} {P : Nat} {L : List TP} {N : Nat} {A : Option Addr} {c mm T i : Nat} {W : World} {g : Par α} {Q : α → Prop} {C : Array Value} {t : TypeId} {m : Nat × Nat} (h : PGot P L N A c mm g Q W) (hT : T ≠ P) (hc : W.heap[T]? = some (.cells C t m)) (ht : t ≠ 71) (v : Value) : PGot P L N A c mm g Q (W.setCell ⟨T, i, none⟩ v) :=
  h.step (grown_set (World.grownBy.refl W (some T)) i v) (fun k hk => by cases hk; exact ⟨hT, C, t, m, hc, ht⟩)
theorem TermsAt.setNew {base T i : Nat} {W : World} {l : List TermL} {v : Value} {C : Array Value} {t : TypeId} {m : Nat × Nat} (h : TermsAt base W l v) (hc : W.heap[T]? = some (.cells C t m)) (ht : t ≠ 45) (u : Value) : TermsAt base (W.setCell ⟨T, i, none⟩ u) l v :=
  h.kept (grown_set (World.grownBy.refl W (some T)) i u) (fun k hk => by cases hk; exact .inr ⟨C, t, m, hc, ht⟩)

set_option maxRecDepth 100000 in
set_option maxHeartbeats 16000000 in
theorem atom_calls {P : Nat} {L : List TP} {N : Nat} {A : Option Addr} {c : Nat} {r : List TP} (w : World) (h : PO P L N A c r w) (hmax : ∀ p ∈ L, p.1.s.length ≤ 65536) :
    Calls Tryz.prog 34 #[.pointer (some ⟨P, 0, none⟩)] w fun e w' => w.grownBy w' (some P) ∧ ∃ x v, e = .returned (.agg #[.string (bs x.p), v]) ∧ TermsAt w.heap.size w' x.a v ∧ PGot P L N A c 65600 (atomP N r) (fun y => y = x) w' := by
  have HLT := Lib.hid (show P < w.heap.size by obtain ⟨nx, _, _, hS⟩ := h; exact hS.lt)
  have HN := Lib.hid (show L.length ≤ 65536 by obtain ⟨nx, _, _, hS⟩ := h; exact hS.n)
  have H := Lib.hid h
  have HMAX := Lib.hid hmax
  have BEL := Lib.hid (show Below w.heap.size w ((w.alloc (.cells #[.pointer (some ⟨P, 0, none⟩)] 61)).alloc (.cells #[.string ⟨#[]⟩, .slice none 0 0] 25)) from ((Below.refl w.heap.size w).alloc (Nat.le_refl _) _).alloc (by simp) _)
  have BELG := Lib.hid (show w.grownBy ((w.alloc (.cells #[.pointer (some ⟨P, 0, none⟩)] 61)).alloc (.cells #[.string ⟨#[]⟩, .slice none 0 0] 25)) (some P) from grown_below BEL.out _)
  have HB0 := Lib.hid (show ((w.alloc (.cells #[.pointer (some ⟨P, 0, none⟩)] 61)).alloc (.cells #[.string ⟨#[]⟩, .slice none 0 0] 25)).heap[w.heap.size]? = some (.cells #[.pointer (some ⟨P, 0, none⟩)] 61 (0, 0)) from (Below.heap_alloc _ _ _ (by simp)).trans (heap_alloc_new w _))
  have HR0 := Lib.hid (show ((w.alloc (.cells #[.pointer (some ⟨P, 0, none⟩)] 61)).alloc (.cells #[.string ⟨#[]⟩, .slice none 0 0] 25)).heap[w.heap.size + 1]? = some (.cells #[.string ⟨#[]⟩, .slice none 0 0] 25 (0, 0)) from heap_new2 w _ _)
  have HPB := Lib.hid (show w.heap.size ≠ P by have := HLT.out; omega)
  clear h hmax
  cases ho : nameP N r with
  | bad a e0 =>
    have HO := Lib.hid ho
    have HF := Lib.hid (show atomP N r = .bad a e0 by unfold atomP; rw [ho])
    clear ho
    go_enter Tryz.func34, Tryz.ntmps34
    go_wp2_with (first
      | (go_at_call 59; ((with_reducible refine (name_calls _ (H.out.below BEL.out) HMAX.out).mono ?_); rintro e w1 ⟨hg1, x, rfl, hgot⟩; rw [HO.out] at hgot; obtain ⟨he0, nx1, hnx1, hS1⟩ := hgot; have HS2 := Lib.hid (hS1.below ((Below.refl w1.heap.size w1).alloc (Nat.le_refl _) (.cells #[.string (bs x), .slice none 0 0] 25))); have HG1 := Lib.hid (grown_trans BELG.out hg1); have HBB := Lib.hid ((hg1.block _ (by simp <;> omega) (by have := HLT.out; simp; omega)).trans HB0.out); have HRR := Lib.hid ((hg1.block _ (by simp <;> omega) (by have := HLT.out; simp; omega)).trans HR0.out); have HB2 := Lib.hid ((Below.heap_alloc w1 (.cells #[.string (bs x), .slice none 0 0] 25) _ (Array.getElem?_eq_some_iff.1 HBB.out).1).trans HBB.out); have HR2 := Lib.hid ((Below.heap_alloc w1 (.cells #[.string (bs x), .slice none 0 0] 25) _ (Array.getElem?_eq_some_iff.1 HRR.out).1).trans HRR.out); have HAB := Lib.hid (heap_alloc_new w1 (.cells #[.string (bs x), .slice none 0 0] 25)); have z0 := cell_of_row (w1.alloc (.cells #[.string (bs x), .slice none 0 0] 25)) (w.heap.size + 1) 0 _ _ _ HR2.out; have z1 := cell_of_row (w1.alloc (.cells #[.string (bs x), .slice none 0 0] 25)) (w.heap.size + 1) 1 _ _ _ HR2.out; have y0 := frozen_of_row (w1.alloc (.cells #[.string (bs x), .slice none 0 0] 25)) (w.heap.size + 1) 0 _ _ HR2.out; have y1 := frozen_of_row (w1.alloc (.cells #[.string (bs x), .slice none 0 0] 25)) (w.heap.size + 1) 1 _ _ HR2.out; have pb := cell_of_row (w1.alloc (.cells #[.string (bs x), .slice none 0 0] 25)) w.heap.size 0 _ _ _ HB2.out; have HE0 := Lib.hid he0; have HNX1 := Lib.hid hnx1; have hbb : ((e0 : Int) == 0) = false := (by simp; omega); have HBBB := Lib.hid hbb; clear he0 hnx1; clear hg1 hS1))
      | (go_at_call 33; ((with_reducible refine (pok_calls false _ HS2.out HBBB.out).mono ?_); rintro e w' ⟨rfl, rfl⟩)))
    have hsz := HG1.out.size
    have hset := set_block (i := 1) (set_block (i := 0) HR2.out (.string (bs x))) (.slice none 0 0)
    have q0 := cell_of_row _ _ 0 _ _ _ hset; have q1 := cell_of_row _ _ 1 _ _ _ hset
    refine bodyPost_ret (v := .agg #[.string (bs x), .slice none 0 0]) (by simp [results, Tryz.results34, go_sem, q0, q1]) rfl ⟨grown_setNew (grown_setNew (grown_trans HG1.out (World.grownBy_alloc _ _ _)) (by omega) _ _) (by omega) _ _, ⟨x, []⟩, .slice none 0 0, rfl, World.ownsRow_nil _ _ _ _, ?_⟩
    rw [HF.out]
    exact PGot.setNew (g := Par.bad (α := AtomL) a e0) (PGot.setNew (g := Par.bad (α := AtomL) a e0) ⟨HE0.out, nx1, by have := HNX1.out; omega, HS2.out⟩ (by have := HLT.out; omega) HR2.out (by decide) _) (by have := HLT.out; omega) (set_block HR2.out _) (by decide) _
  | ok p0 r1 =>
    have HO := Lib.hid ho
    cases hv : isM N r1 0 [40] with
    | false =>
      have HF := Lib.hid (show atomP N r = .ok ⟨p0, []⟩ r1 by unfold atomP; rw [ho]; simp [hv])
      have HV0 := Lib.hid hv
      clear ho hv
      go_enter Tryz.func34, Tryz.ntmps34
      go_wp2_with (first
        | (go_at_call 59; ((with_reducible refine (name_calls _ (H.out.below BEL.out) HMAX.out).mono ?_); rintro e w1 ⟨hg1, x, rfl, hgot⟩; rw [HO.out] at hgot; obtain ⟨hxx, nx1, hnx1, hr1, hS1⟩ := hgot; have HS2 := Lib.hid (hS1.below ((Below.refl w1.heap.size w1).alloc (Nat.le_refl _) (.cells #[.string (bs x), .slice none 0 0] 25))); have HG1 := Lib.hid (grown_trans BELG.out hg1); have HBB := Lib.hid ((hg1.block _ (by simp <;> omega) (by have := HLT.out; simp; omega)).trans HB0.out); have HRR := Lib.hid ((hg1.block _ (by simp <;> omega) (by have := HLT.out; simp; omega)).trans HR0.out); have HB2 := Lib.hid ((Below.heap_alloc w1 (.cells #[.string (bs x), .slice none 0 0] 25) _ (Array.getElem?_eq_some_iff.1 HBB.out).1).trans HBB.out); have HR2 := Lib.hid ((Below.heap_alloc w1 (.cells #[.string (bs x), .slice none 0 0] 25) _ (Array.getElem?_eq_some_iff.1 HRR.out).1).trans HRR.out); have HAB := Lib.hid (heap_alloc_new w1 (.cells #[.string (bs x), .slice none 0 0] 25)); have z0 := cell_of_row (w1.alloc (.cells #[.string (bs x), .slice none 0 0] 25)) (w.heap.size + 1) 0 _ _ _ HR2.out; have z1 := cell_of_row (w1.alloc (.cells #[.string (bs x), .slice none 0 0] 25)) (w.heap.size + 1) 1 _ _ _ HR2.out; have y0 := frozen_of_row (w1.alloc (.cells #[.string (bs x), .slice none 0 0] 25)) (w.heap.size + 1) 0 _ _ HR2.out; have y1 := frozen_of_row (w1.alloc (.cells #[.string (bs x), .slice none 0 0] 25)) (w.heap.size + 1) 1 _ _ HR2.out; have pb := cell_of_row (w1.alloc (.cells #[.string (bs x), .slice none 0 0] 25)) w.heap.size 0 _ _ _ HB2.out; have HXX := Lib.hid hxx; have HNX1 := Lib.hid hnx1; have HR1 := Lib.hid hr1; have HV := Lib.hid (show isM N (L.drop nx1) 0 (⟨#[40]⟩ : ByteArray).data.toList = false by rw [hr1]; exact HV0.out); clear hxx hnx1 hr1; clear hg1 hS1))
        | (go_at_call 33; ((with_reducible refine (pok_calls true _ HS2.out rfl).mono ?_); rintro e w' ⟨rfl, rfl⟩))
        | (go_at_call 60; ((with_reducible refine (is_calls ⟨#[40]⟩ false _ HS2.out HV.out).mono ?_); rintro e w2 ⟨rfl, hb2⟩; have HS3 := Lib.hid (HS2.out.below hb2); have HB3 := Lib.hid ((hb2.block _ (Array.getElem?_eq_some_iff.1 HB2.out).1).trans HB2.out); have HR3 := Lib.hid ((hb2.block _ (Array.getElem?_eq_some_iff.1 HR2.out).1).trans HR2.out); have HA3 := Lib.hid ((hb2.block _ (Array.getElem?_eq_some_iff.1 HAB.out).1).trans HAB.out); have HG2 := Lib.hid hb2; clear z0 z1 y0 y1 pb; have z0 := cell_of_row w2 (w.heap.size + 1) 0 _ _ _ HR3.out; have z1 := cell_of_row w2 (w.heap.size + 1) 1 _ _ _ HR3.out; have y0 := frozen_of_row w2 (w.heap.size + 1) 0 _ _ HR3.out; have y1 := frozen_of_row w2 (w.heap.size + 1) 1 _ _ HR3.out; have pb := cell_of_row w2 w.heap.size 0 _ _ _ HB3.out; have a0 := cell_of_row w2 w1.heap.size 0 _ _ _ HA3.out; have a1 := cell_of_row w2 w1.heap.size 1 _ _ _ HA3.out; clear hb2)))
      have hsz := HG1.out.size
      have hset := set_block (i := 1) (set_block (i := 0) HR3.out (.string (bs x))) (.slice none 0 0)
      have q0 := cell_of_row _ _ 0 _ _ _ hset; have q1 := cell_of_row _ _ 1 _ _ _ hset
      refine bodyPost_ret (v := .agg #[.string (bs x), .slice none 0 0]) (by simp [results, Tryz.results34, go_sem, q0, q1]) rfl ⟨grown_setNew (grown_setNew (grown_trans HG1.out (grown_trans (World.grownBy_alloc _ _ _) (grown_below HG2.out _))) (by omega) _ _) (by omega) _ _, ⟨x, []⟩, .slice none 0 0, rfl, World.ownsRow_nil _ _ _ _, ?_⟩
      rw [HF.out]
      exact PGot.setNew (g := Par.ok (⟨p0, []⟩ : AtomL) r1) (PGot.setNew (g := Par.ok (⟨p0, []⟩ : AtomL) r1) ⟨by rw [HXX.out], nx1, HNX1.out, HR1.out, HS3.out⟩ (by have := HLT.out; omega) HR3.out (by decide) _) (by have := HLT.out; omega) (set_block HR3.out _) (by decide) _
    | true =>
      obtain ⟨⟨⟨k, s, n, q⟩, a⟩, hp⟩ : ∃ p, pk N r1 0 = p := ⟨_, rfl⟩
      obtain ⟨r2, hr2⟩ : ∃ r2, r1.tail = r2 := ⟨_, rfl⟩
      have HP0 := Lib.hid hp
      have HRT := Lib.hid hr2
      have HV0 := Lib.hid hv
      cases hs : someP (termP N) N 6 r2 with
      | bad a2 e2 =>
        have HSO := Lib.hid hs
        have HF := Lib.hid (show atomP N r = .bad a2 e2 by unfold atomP; rw [ho]; simp [hv, hr2, hs])
        clear ho hv hp hr2 hs
        go_enter Tryz.func34, Tryz.ntmps34
        go_wp2_with (first
          | (go_at_call 59; ((with_reducible refine (name_calls _ (H.out.below BEL.out) HMAX.out).mono ?_); rintro e w1 ⟨hg1, x, rfl, hgot⟩; rw [HO.out] at hgot; obtain ⟨hxx, nx1, hnx1, hr1, hS1⟩ := hgot; have HS2 := Lib.hid (hS1.below ((Below.refl w1.heap.size w1).alloc (Nat.le_refl _) (.cells #[.string (bs x), .slice none 0 0] 25))); have HG1 := Lib.hid (grown_trans BELG.out hg1); have HBB := Lib.hid ((hg1.block _ (by simp <;> omega) (by have := HLT.out; simp; omega)).trans HB0.out); have HRR := Lib.hid ((hg1.block _ (by simp <;> omega) (by have := HLT.out; simp; omega)).trans HR0.out); have HB2 := Lib.hid ((Below.heap_alloc w1 (.cells #[.string (bs x), .slice none 0 0] 25) _ (Array.getElem?_eq_some_iff.1 HBB.out).1).trans HBB.out); have HR2 := Lib.hid ((Below.heap_alloc w1 (.cells #[.string (bs x), .slice none 0 0] 25) _ (Array.getElem?_eq_some_iff.1 HRR.out).1).trans HRR.out); have HAB := Lib.hid (heap_alloc_new w1 (.cells #[.string (bs x), .slice none 0 0] 25)); have z0 := cell_of_row (w1.alloc (.cells #[.string (bs x), .slice none 0 0] 25)) (w.heap.size + 1) 0 _ _ _ HR2.out; have z1 := cell_of_row (w1.alloc (.cells #[.string (bs x), .slice none 0 0] 25)) (w.heap.size + 1) 1 _ _ _ HR2.out; have y0 := frozen_of_row (w1.alloc (.cells #[.string (bs x), .slice none 0 0] 25)) (w.heap.size + 1) 0 _ _ HR2.out; have y1 := frozen_of_row (w1.alloc (.cells #[.string (bs x), .slice none 0 0] 25)) (w.heap.size + 1) 1 _ _ HR2.out; have pb := cell_of_row (w1.alloc (.cells #[.string (bs x), .slice none 0 0] 25)) w.heap.size 0 _ _ _ HB2.out; have HXX := Lib.hid hxx; have HNX1 := Lib.hid hnx1; have HR1 := Lib.hid hr1; have HV := Lib.hid (show isM N (L.drop nx1) 0 (⟨#[40]⟩ : ByteArray).data.toList = true by rw [hr1]; exact HV0.out); have HIN := Lib.hid (comma_in HV.out); have HX := Lib.hid (show nx1 + 1 ≤ 1000000 by have := HIN.out; have := HN.out; omega); have HP := Lib.hid (show pk N (L.drop nx1) 0 = (⟨k, s, n, q⟩, a) by rw [hr1]; exact HP0.out); have HTL := Lib.hid (show L.drop (nx1 + 1) = r2 by rw [← HRT.out, ← hr1, List.tail_drop]); have HLT1 := Lib.hid (show P < w1.heap.size by have := hg1.size; have := HLT.out; simp at *; omega); clear hxx hnx1 hr1; clear hg1 hS1))
          | (go_at_call 33; ((with_reducible refine (pok_calls true _ HS2.out rfl).mono ?_); rintro e w' ⟨rfl, rfl⟩))
          | (go_at_call 60; ((with_reducible refine (is_calls ⟨#[40]⟩ true _ HS2.out HV.out).mono ?_); rintro e w2 ⟨rfl, hb2⟩; have HS3 := Lib.hid (HS2.out.below hb2); have HB3 := Lib.hid ((hb2.block _ (Array.getElem?_eq_some_iff.1 HB2.out).1).trans HB2.out); have HR3 := Lib.hid ((hb2.block _ (Array.getElem?_eq_some_iff.1 HR2.out).1).trans HR2.out); have HA3 := Lib.hid ((hb2.block _ (Array.getElem?_eq_some_iff.1 HAB.out).1).trans HAB.out); have HG2 := Lib.hid hb2; clear z0 z1 y0 y1 pb; have z0 := cell_of_row w2 (w.heap.size + 1) 0 _ _ _ HR3.out; have z1 := cell_of_row w2 (w.heap.size + 1) 1 _ _ _ HR3.out; have y0 := frozen_of_row w2 (w.heap.size + 1) 0 _ _ HR3.out; have y1 := frozen_of_row w2 (w.heap.size + 1) 1 _ _ HR3.out; have pb := cell_of_row w2 w.heap.size 0 _ _ _ HB3.out; have a0 := cell_of_row w2 w1.heap.size 0 _ _ _ HA3.out; have a1 := cell_of_row w2 w1.heap.size 1 _ _ _ HA3.out; clear hb2))
          | (go_at_call 61; ((with_reducible refine (takeA_calls _ k s n q a _ HS3.out HX.out HP.out rfl).mono ?_); rintro e w3 ⟨rfl, hs3, hg3⟩; have HS4 := Lib.hid hs3; have HB4 := Lib.hid ((hg3.block _ (Array.getElem?_eq_some_iff.1 HB3.out).1 (by have := HLT.out; simp; omega)).trans HB3.out); have HR4 := Lib.hid ((hg3.block _ (Array.getElem?_eq_some_iff.1 HR3.out).1 (by have := HLT.out; simp; omega)).trans HR3.out); have HA4 := Lib.hid ((hg3.block _ (Array.getElem?_eq_some_iff.1 HA3.out).1 (by have := HLT1.out; simp; omega)).trans HA3.out); have HG3 := Lib.hid hg3; clear z0 z1 y0 y1 pb; clear a0 a1; have z0 := cell_of_row w3 (w.heap.size + 1) 0 _ _ _ HR4.out; have z1 := cell_of_row w3 (w.heap.size + 1) 1 _ _ _ HR4.out; have y0 := frozen_of_row w3 (w.heap.size + 1) 0 _ _ HR4.out; have y1 := frozen_of_row w3 (w.heap.size + 1) 1 _ _ HR4.out; have pb := cell_of_row w3 w.heap.size 0 _ _ _ HB4.out; clear hs3 hg3))
          | (go_at_call 62; refine RowKit.Hid.out ?_))
        refine Lib.hid ?_
        (with_reducible refine (someI_calls (L := L) (A := A) (c := c) 63 #[.pointer (some ⟨w1.heap.size, 0, none⟩), .pointer (some ⟨w.heap.size, 0, none⟩)] en_arg (termP N) (ArgJ P w1.heap.size w.heap.size (bs x) w1) (fun u u' acc hj hg => hj.step (Nat.le_refl _) HPB.out HLT1.out hg) 65537 (by omega) (Nat.le_refl _) (fun u acc r' hl hpo hj => arg_calls w1 u acc HLT1.out (Nat.le_refl _) HPB.out hl hpo hj) 6 6 rfl (by omega) r2 _ ?_ ?_).mono ?_)
        (focus (exact ⟨nx1 + 1, HIN.out, HTL.out, HS4.out⟩))
        (focus (exact ⟨grown_trans (World.grownBy_alloc _ _ _) (grown_trans (grown_below HG2.out _) HG3.out), ⟨_, HA4.out, World.ownsRow_nil _ _ _ _, fun _ => rfl⟩, HB4.out⟩))
        rintro e w4 ⟨rfl, acc, hj4, hgot4⟩
        rw [HSO.out] at hgot4
        have HJ4 := Lib.hid hj4
        have HGOT4 := Lib.hid hgot4
        obtain ⟨v4, ha4, ht4, _⟩ := hj4.a
        obtain ⟨A4, c4, rfl⟩ := o_slice ht4
        have HA5 := Lib.hid ha4
        have HT5 := Lib.hid ht4
        have HG4 := Lib.hid hj4.g
        have HB5 := Lib.hid hj4.b
        have HR5 := Lib.hid ((hj4.g.block _ (Array.getElem?_eq_some_iff.1 HRR.out).1 (by have := HLT.out; simp; omega)).trans HRR.out)
        clear z0 z1 y0 y1 pb
        have z0 := cell_of_row w4 (w.heap.size + 1) 0 _ _ _ HR5.out
        have z1 := cell_of_row w4 (w.heap.size + 1) 1 _ _ _ HR5.out
        have y0 := frozen_of_row w4 (w.heap.size + 1) 0 _ _ HR5.out
        have y1 := frozen_of_row w4 (w.heap.size + 1) 1 _ _ HR5.out
        have pb := cell_of_row w4 w.heap.size 0 _ _ _ HB5.out
        clear ha4 ht4 hj4 hgot4
        go_wp2_with (go_at_call 65; ((with_reducible refine (mark_bad_calls ⟨#[41]⟩ _ HGOT4.out.isBad (by omega)).mono ?_); rintro e w5 ⟨rfl, hg5, hgot5⟩; have HG5 := Lib.hid hg5; have HA6 := Lib.hid ((hg5.block _ (Array.getElem?_eq_some_iff.1 HA5.out).1 (by have := HLT1.out; simp; omega)).trans HA5.out); have HR6 := Lib.hid ((hg5.block _ (Array.getElem?_eq_some_iff.1 HR5.out).1 (by have := HLT.out; simp; omega)).trans HR5.out); have HB6 := Lib.hid ((hg5.block _ (Array.getElem?_eq_some_iff.1 HB5.out).1 (by have := HLT.out; simp; omega)).trans HB5.out); have HT6 := Lib.hid (HT5.out.kept hg5 (fun j e => by cases e; exact .inl HLT1.out)); clear z0 z1 y0 y1 pb; have z0 := cell_of_row w5 (w.heap.size + 1) 0 _ _ _ HR6.out; have z1 := cell_of_row w5 (w.heap.size + 1) 1 _ _ _ HR6.out; have y0 := frozen_of_row w5 (w.heap.size + 1) 0 _ _ HR6.out; have y1 := frozen_of_row w5 (w.heap.size + 1) 1 _ _ HR6.out; have pb := cell_of_row w5 w.heap.size 0 _ _ _ HB6.out; have a0 := cell_of_row w5 w1.heap.size 0 _ _ _ HA6.out; have a1 := cell_of_row w5 w1.heap.size 1 _ _ _ HA6.out; have HGOT5 := Lib.hid hgot5; clear hg5 hgot5))
        have hsz := HG1.out.size
        have hsz1 : w.heap.size ≤ w1.heap.size := HG1.out.size
        have hset := set_block (i := 1) (set_block (i := 0) HR6.out (.string (bs x))) (.slice A4 acc.length c4)
        have q0 := cell_of_row _ _ 0 _ _ _ hset; have q1 := cell_of_row _ _ 1 _ _ _ hset
        refine bodyPost_ret (v := .agg #[.string (bs x), .slice A4 acc.length c4]) (by simp [results, Tryz.results34, go_sem, q0, q1]) rfl ⟨grown_setNew (grown_setNew (grown_trans HG1.out (grown_trans HG4.out HG5.out)) (by omega) _ _) (by omega) _ _, ⟨x, acc⟩, _, rfl, ?_, ?_⟩
        · exact o_base ((HT6.out.setNew HR6.out (by decide) _).setNew (set_block HR6.out _) (by decide) _) hsz1
        rw [HF.out]
        exact PGot.setNew (g := Par.bad (α := AtomL) a2 e2) (PGot.setNew (g := Par.bad (α := AtomL) a2 e2) (HGOT5.out.mono (by omega)) (by have := HLT.out; omega) HR6.out (by decide) _) (by have := HLT.out; omega) (set_block HR6.out _) (by decide) _
      | ok l r3 =>
        have HSO := Lib.hid hs
        have HF := Lib.hid (show atomP N r = markP N [41] ⟨p0, l⟩ r3 by unfold atomP; rw [ho]; simp [hv, hr2, hs])
        clear ho hv hp hr2 hs
        go_enter Tryz.func34, Tryz.ntmps34
        go_wp2_with (first
          | (go_at_call 59; ((with_reducible refine (name_calls _ (H.out.below BEL.out) HMAX.out).mono ?_); rintro e w1 ⟨hg1, x, rfl, hgot⟩; rw [HO.out] at hgot; obtain ⟨hxx, nx1, hnx1, hr1, hS1⟩ := hgot; have HS2 := Lib.hid (hS1.below ((Below.refl w1.heap.size w1).alloc (Nat.le_refl _) (.cells #[.string (bs x), .slice none 0 0] 25))); have HG1 := Lib.hid (grown_trans BELG.out hg1); have HBB := Lib.hid ((hg1.block _ (by simp <;> omega) (by have := HLT.out; simp; omega)).trans HB0.out); have HRR := Lib.hid ((hg1.block _ (by simp <;> omega) (by have := HLT.out; simp; omega)).trans HR0.out); have HB2 := Lib.hid ((Below.heap_alloc w1 (.cells #[.string (bs x), .slice none 0 0] 25) _ (Array.getElem?_eq_some_iff.1 HBB.out).1).trans HBB.out); have HR2 := Lib.hid ((Below.heap_alloc w1 (.cells #[.string (bs x), .slice none 0 0] 25) _ (Array.getElem?_eq_some_iff.1 HRR.out).1).trans HRR.out); have HAB := Lib.hid (heap_alloc_new w1 (.cells #[.string (bs x), .slice none 0 0] 25)); have z0 := cell_of_row (w1.alloc (.cells #[.string (bs x), .slice none 0 0] 25)) (w.heap.size + 1) 0 _ _ _ HR2.out; have z1 := cell_of_row (w1.alloc (.cells #[.string (bs x), .slice none 0 0] 25)) (w.heap.size + 1) 1 _ _ _ HR2.out; have y0 := frozen_of_row (w1.alloc (.cells #[.string (bs x), .slice none 0 0] 25)) (w.heap.size + 1) 0 _ _ HR2.out; have y1 := frozen_of_row (w1.alloc (.cells #[.string (bs x), .slice none 0 0] 25)) (w.heap.size + 1) 1 _ _ HR2.out; have pb := cell_of_row (w1.alloc (.cells #[.string (bs x), .slice none 0 0] 25)) w.heap.size 0 _ _ _ HB2.out; have HXX := Lib.hid hxx; have HNX1 := Lib.hid hnx1; have HR1 := Lib.hid hr1; have HV := Lib.hid (show isM N (L.drop nx1) 0 (⟨#[40]⟩ : ByteArray).data.toList = true by rw [hr1]; exact HV0.out); have HIN := Lib.hid (comma_in HV.out); have HX := Lib.hid (show nx1 + 1 ≤ 1000000 by have := HIN.out; have := HN.out; omega); have HP := Lib.hid (show pk N (L.drop nx1) 0 = (⟨k, s, n, q⟩, a) by rw [hr1]; exact HP0.out); have HTL := Lib.hid (show L.drop (nx1 + 1) = r2 by rw [← HRT.out, ← hr1, List.tail_drop]); have HLT1 := Lib.hid (show P < w1.heap.size by have := hg1.size; have := HLT.out; simp at *; omega); clear hxx hnx1 hr1; clear hg1 hS1))
          | (go_at_call 33; ((with_reducible refine (pok_calls true _ HS2.out rfl).mono ?_); rintro e w' ⟨rfl, rfl⟩))
          | (go_at_call 60; ((with_reducible refine (is_calls ⟨#[40]⟩ true _ HS2.out HV.out).mono ?_); rintro e w2 ⟨rfl, hb2⟩; have HS3 := Lib.hid (HS2.out.below hb2); have HB3 := Lib.hid ((hb2.block _ (Array.getElem?_eq_some_iff.1 HB2.out).1).trans HB2.out); have HR3 := Lib.hid ((hb2.block _ (Array.getElem?_eq_some_iff.1 HR2.out).1).trans HR2.out); have HA3 := Lib.hid ((hb2.block _ (Array.getElem?_eq_some_iff.1 HAB.out).1).trans HAB.out); have HG2 := Lib.hid hb2; clear z0 z1 y0 y1 pb; have z0 := cell_of_row w2 (w.heap.size + 1) 0 _ _ _ HR3.out; have z1 := cell_of_row w2 (w.heap.size + 1) 1 _ _ _ HR3.out; have y0 := frozen_of_row w2 (w.heap.size + 1) 0 _ _ HR3.out; have y1 := frozen_of_row w2 (w.heap.size + 1) 1 _ _ HR3.out; have pb := cell_of_row w2 w.heap.size 0 _ _ _ HB3.out; have a0 := cell_of_row w2 w1.heap.size 0 _ _ _ HA3.out; have a1 := cell_of_row w2 w1.heap.size 1 _ _ _ HA3.out; clear hb2))
          | (go_at_call 61; ((with_reducible refine (takeA_calls _ k s n q a _ HS3.out HX.out HP.out rfl).mono ?_); rintro e w3 ⟨rfl, hs3, hg3⟩; have HS4 := Lib.hid hs3; have HB4 := Lib.hid ((hg3.block _ (Array.getElem?_eq_some_iff.1 HB3.out).1 (by have := HLT.out; simp; omega)).trans HB3.out); have HR4 := Lib.hid ((hg3.block _ (Array.getElem?_eq_some_iff.1 HR3.out).1 (by have := HLT.out; simp; omega)).trans HR3.out); have HA4 := Lib.hid ((hg3.block _ (Array.getElem?_eq_some_iff.1 HA3.out).1 (by have := HLT1.out; simp; omega)).trans HA3.out); have HG3 := Lib.hid hg3; clear z0 z1 y0 y1 pb; clear a0 a1; have z0 := cell_of_row w3 (w.heap.size + 1) 0 _ _ _ HR4.out; have z1 := cell_of_row w3 (w.heap.size + 1) 1 _ _ _ HR4.out; have y0 := frozen_of_row w3 (w.heap.size + 1) 0 _ _ HR4.out; have y1 := frozen_of_row w3 (w.heap.size + 1) 1 _ _ HR4.out; have pb := cell_of_row w3 w.heap.size 0 _ _ _ HB4.out; clear hs3 hg3))
          | (go_at_call 62; refine RowKit.Hid.out ?_))
        refine Lib.hid ?_
        (with_reducible refine (someI_calls (L := L) (A := A) (c := c) 63 #[.pointer (some ⟨w1.heap.size, 0, none⟩), .pointer (some ⟨w.heap.size, 0, none⟩)] en_arg (termP N) (ArgJ P w1.heap.size w.heap.size (bs x) w1) (fun u u' acc hj hg => hj.step (Nat.le_refl _) HPB.out HLT1.out hg) 65537 (by omega) (Nat.le_refl _) (fun u acc r' hl hpo hj => arg_calls w1 u acc HLT1.out (Nat.le_refl _) HPB.out hl hpo hj) 6 6 rfl (by omega) r2 _ ?_ ?_).mono ?_)
        (focus (exact ⟨nx1 + 1, HIN.out, HTL.out, HS4.out⟩))
        (focus (exact ⟨grown_trans (World.grownBy_alloc _ _ _) (grown_trans (grown_below HG2.out _) HG3.out), ⟨_, HA4.out, World.ownsRow_nil _ _ _ _, fun _ => rfl⟩, HB4.out⟩))
        rintro e w4 ⟨rfl, acc, hj4, hgot4⟩
        rw [HSO.out] at hgot4
        have HJ4 := Lib.hid hj4
        have HGOT4 := Lib.hid hgot4
        obtain ⟨v4, ha4, ht4, _⟩ := hj4.a
        obtain ⟨A4, c4, rfl⟩ := o_slice ht4
        have HA5 := Lib.hid ha4
        have HT5 := Lib.hid ht4
        have HG4 := Lib.hid hj4.g
        have HB5 := Lib.hid hj4.b
        have HR5 := Lib.hid ((hj4.g.block _ (Array.getElem?_eq_some_iff.1 HRR.out).1 (by have := HLT.out; simp; omega)).trans HRR.out)
        clear z0 z1 y0 y1 pb
        have z0 := cell_of_row w4 (w.heap.size + 1) 0 _ _ _ HR5.out
        have z1 := cell_of_row w4 (w.heap.size + 1) 1 _ _ _ HR5.out
        have y0 := frozen_of_row w4 (w.heap.size + 1) 0 _ _ HR5.out
        have y1 := frozen_of_row w4 (w.heap.size + 1) 1 _ _ HR5.out
        have pb := cell_of_row w4 w.heap.size 0 _ _ _ HB5.out
        clear ha4 ht4 hj4 hgot4
        go_wp2_with (go_at_call 65; ((with_reducible refine (mark_ok_calls ⟨#[41]⟩ _ HGOT4.out.isOk.2 (Nat.le_refl _)).mono ?_); rintro e w5 ⟨rfl, hg5, hgot5⟩; have HG5 := Lib.hid hg5; have HA6 := Lib.hid ((hg5.block _ (Array.getElem?_eq_some_iff.1 HA5.out).1 (by have := HLT1.out; simp; omega)).trans HA5.out); have HR6 := Lib.hid ((hg5.block _ (Array.getElem?_eq_some_iff.1 HR5.out).1 (by have := HLT.out; simp; omega)).trans HR5.out); have HB6 := Lib.hid ((hg5.block _ (Array.getElem?_eq_some_iff.1 HB5.out).1 (by have := HLT.out; simp; omega)).trans HB5.out); have HT6 := Lib.hid (HT5.out.kept hg5 (fun j e => by cases e; exact .inl HLT1.out)); clear z0 z1 y0 y1 pb; have z0 := cell_of_row w5 (w.heap.size + 1) 0 _ _ _ HR6.out; have z1 := cell_of_row w5 (w.heap.size + 1) 1 _ _ _ HR6.out; have y0 := frozen_of_row w5 (w.heap.size + 1) 0 _ _ HR6.out; have y1 := frozen_of_row w5 (w.heap.size + 1) 1 _ _ HR6.out; have pb := cell_of_row w5 w.heap.size 0 _ _ _ HB6.out; have a0 := cell_of_row w5 w1.heap.size 0 _ _ _ HA6.out; have a1 := cell_of_row w5 w1.heap.size 1 _ _ _ HA6.out; have HGOT5 := Lib.hid hgot5; clear hg5 hgot5))
        have hsz := HG1.out.size
        have hsz1 : w.heap.size ≤ w1.heap.size := HG1.out.size
        have hset := set_block (i := 1) (set_block (i := 0) HR6.out (.string (bs x))) (.slice A4 acc.length c4)
        have q0 := cell_of_row _ _ 0 _ _ _ hset; have q1 := cell_of_row _ _ 1 _ _ _ hset
        refine bodyPost_ret (v := .agg #[.string (bs x), .slice A4 acc.length c4]) (by simp [results, Tryz.results34, go_sem, q0, q1]) rfl ⟨grown_setNew (grown_setNew (grown_trans HG1.out (grown_trans HG4.out HG5.out)) (by omega) _ _) (by omega) _ _, ⟨x, acc⟩, _, rfl, ?_, ?_⟩
        · exact o_base ((HT6.out.setNew HR6.out (by decide) _).setNew (set_block HR6.out _) (by decide) _) hsz1
        rw [HF.out]
        refine PGot.setNew (PGot.setNew ?_ (by have := HLT.out; omega) HR6.out (by decide) _) (by have := HLT.out; omega) (set_block HR6.out _) (by decide) _
        have hg := HGOT5.out
        have he : (⟨p0, l⟩ : AtomL) = ⟨x, acc⟩ := by rw [HXX.out, HGOT4.out.isOk.1]
        unfold markP at hg ⊢
        split at hg
        · rename_i hc
          rw [if_pos hc]
          exact ⟨he, hg.2⟩
        · rename_i hc
          rw [if_neg hc]
          exact PB.mono hg (by omega)
end Go.Proofs.YtminbdcabacfbaaGreatDoor.V

namespace Go.Proofs.YtminbdcabacfbaaGreatDoor.V
set_option linter.unusedVariables false
set_option linter.unusedSimpArgs false
open Go.RowKit

def litC (x : LitL) (v : Value) : List Value := [.int .i64 (x.k : Int), .string (bs x.a.p), v, .string (bs x.o), .bool x.l.v, .string (bs x.l.x), .bool x.l.s, .string (bs x.l.t), .int .i64 x.l.n, .bool x.r.v, .string (bs x.r.x), .bool x.r.s, .string (bs x.r.t), .int .i64 x.r.n]
/-- A block of a literal's cells is stored whole. -/
abbrev litSet (T : Nat) (u0 u1 u2 u3 u4 u5 u6 u7 u8 u9 u10 u11 u12 u13 : Value) (w : World) : World := ((((((((((((((w.setCell ⟨T, 0, none⟩ u0).setCell ⟨T, 1, none⟩ u1).setCell ⟨T, 2, none⟩ u2).setCell ⟨T, 3, none⟩ u3).setCell ⟨T, 4, none⟩ u4).setCell ⟨T, 5, none⟩ u5).setCell ⟨T, 6, none⟩ u6).setCell ⟨T, 7, none⟩ u7).setCell ⟨T, 8, none⟩ u8).setCell ⟨T, 9, none⟩ u9).setCell ⟨T, 10, none⟩ u10).setCell ⟨T, 11, none⟩ u11).setCell ⟨T, 12, none⟩ u12).setCell ⟨T, 13, none⟩ u13)
theorem set_at {w : World} {b i : Nat} {cs cs' : Array Value} {t : TypeId} (h : w.heap[b]? = some (.cells cs t (0, 0))) (u : Value) (he : cs.setIfInBounds i u = cs') : (w.setCell ⟨b, i, none⟩ u).heap[b]? = some (.cells cs' t (0, 0)) := by
  rw [set_block h u, he]
theorem litSet_block {T : Nat} {w : World} {t : TypeId} {c0 c1 c2 c3 c4 c5 c6 c7 c8 c9 c10 c11 c12 c13 : Value} (h : w.heap[T]? = some (.cells #[c0, c1, c2, c3, c4, c5, c6, c7, c8, c9, c10, c11, c12, c13] t (0, 0))) (u0 u1 u2 u3 u4 u5 u6 u7 u8 u9 u10 u11 u12 u13 : Value) : (litSet T u0 u1 u2 u3 u4 u5 u6 u7 u8 u9 u10 u11 u12 u13 w).heap[T]? = some (.cells #[u0, u1, u2, u3, u4, u5, u6, u7, u8, u9, u10, u11, u12, u13] t (0, 0)) := by
  have h1 := set_at (i := 0) (cs' := #[u0, c1, c2, c3, c4, c5, c6, c7, c8, c9, c10, c11, c12, c13]) h u0 rfl
  have h2 := set_at (i := 1) (cs' := #[u0, u1, c2, c3, c4, c5, c6, c7, c8, c9, c10, c11, c12, c13]) h1 u1 rfl
  have h3 := set_at (i := 2) (cs' := #[u0, u1, u2, c3, c4, c5, c6, c7, c8, c9, c10, c11, c12, c13]) h2 u2 rfl
  have h4 := set_at (i := 3) (cs' := #[u0, u1, u2, u3, c4, c5, c6, c7, c8, c9, c10, c11, c12, c13]) h3 u3 rfl
  have h5 := set_at (i := 4) (cs' := #[u0, u1, u2, u3, u4, c5, c6, c7, c8, c9, c10, c11, c12, c13]) h4 u4 rfl
  have h6 := set_at (i := 5) (cs' := #[u0, u1, u2, u3, u4, u5, c6, c7, c8, c9, c10, c11, c12, c13]) h5 u5 rfl
  have h7 := set_at (i := 6) (cs' := #[u0, u1, u2, u3, u4, u5, u6, c7, c8, c9, c10, c11, c12, c13]) h6 u6 rfl
  have h8 := set_at (i := 7) (cs' := #[u0, u1, u2, u3, u4, u5, u6, u7, c8, c9, c10, c11, c12, c13]) h7 u7 rfl
  have h9 := set_at (i := 8) (cs' := #[u0, u1, u2, u3, u4, u5, u6, u7, u8, c9, c10, c11, c12, c13]) h8 u8 rfl
  have h10 := set_at (i := 9) (cs' := #[u0, u1, u2, u3, u4, u5, u6, u7, u8, u9, c10, c11, c12, c13]) h9 u9 rfl
  have h11 := set_at (i := 10) (cs' := #[u0, u1, u2, u3, u4, u5, u6, u7, u8, u9, u10, c11, c12, c13]) h10 u10 rfl
  have h12 := set_at (i := 11) (cs' := #[u0, u1, u2, u3, u4, u5, u6, u7, u8, u9, u10, u11, c12, c13]) h11 u11 rfl
  have h13 := set_at (i := 12) (cs' := #[u0, u1, u2, u3, u4, u5, u6, u7, u8, u9, u10, u11, u12, c13]) h12 u12 rfl
  have h14 := set_at (i := 13) (cs' := #[u0, u1, u2, u3, u4, u5, u6, u7, u8, u9, u10, u11, u12, u13]) h13 u13 rfl
  exact h14
theorem po_mk {P : Nat} {L : List TP} {N : Nat} {A : Option Addr} {c nx : Nat} {W : World} (h1 : nx ≤ L.length) (h3 : PS P L N nx 0 0 A c W) : PO P L N A c (L.drop nx) W := ⟨nx, h1, rfl, h3⟩
theorem field_tok (k : Int) (s : ByteArray) (n : Int) (q : Bool) (a : Int) (w : World) : (Instr.field 71 (.agg #[.int .i64 k, .string s, .int .i64 n, .bool q, .int .i64 a]) 1).run Tryz.prog w = .ok (.string s) w := by
  simp [Instr.field, go_sem, asAgg]
theorem op_in {N : Nat} {L : List TP} {nx : Nat} (h : isO N (L.drop nx) 0 = true) : nx + 1 ≤ L.length := by
  unfold isO at h
  simp only [Bool.and_eq_true, beq_iff_eq] at h
  by_cases hl : nx < L.length
  · exact hl
  · rw [pk_out (by omega)] at h
    exact absurd h.1 (by simp [eofT])
theorem blk_keep {W W' : World} {T : Nat} {o : Obj} {row : Option Nat} (h : W.heap[T]? = some o) (hg : W.grownBy W' row) (hne : some T ≠ row) : W'.heap[T]? = some o := (hg.block T (Array.getElem?_eq_some_iff.1 h).1 hne).trans h
def Par.map {α β : Type} (f : α → β) : Par α → Par β
  | .bad a e => .bad a e
  | .ok x r => .ok (f x) r
theorem PGot.map {α β : Type} {P : Nat} {L : List TP} {N : Nat} {A : Option Addr} {c mm mm' : Nat} {g : Par α} {Q : α → Prop} {Q' : β → Prop} {W : World} (f : α → β) (h : PGot P L N A c mm g Q W) (hm : mm ≤ mm') (hq : ∀ x, Q x → Q' (f x)) : PGot P L N A c mm' (g.map f) Q' W := by
  cases g with
  | bad a e => exact PB.mono h hm
  | ok x r => exact ⟨hq x h.1, h.2⟩
/-- Stores into the result's block, all of a literal's cells. -/
theorem grown_litSet {T : Nat} {w w' : World} {row : Option Nat} (h : w.grownBy w' row) (hT : w.heap.size ≤ T) (u0 u1 u2 u3 u4 u5 u6 u7 u8 u9 u10 u11 u12 u13 : Value) : w.grownBy (litSet T u0 u1 u2 u3 u4 u5 u6 u7 u8 u9 u10 u11 u12 u13 w') row :=
  grown_setNew (grown_setNew (grown_setNew (grown_setNew (grown_setNew (grown_setNew (grown_setNew (grown_setNew (grown_setNew (grown_setNew (grown_setNew (grown_setNew (grown_setNew (grown_setNew h hT _ _) hT _ _) hT _ _) hT _ _) hT _ _) hT _ _) hT _ _) hT _ _) hT _ _) hT _ _) hT _ _) hT _ _) hT _ _) hT _ _
theorem litSet_self {T : Nat} (w : World) (u0 u1 u2 u3 u4 u5 u6 u7 u8 u9 u10 u11 u12 u13 : Value) : w.grownBy (litSet T u0 u1 u2 u3 u4 u5 u6 u7 u8 u9 u10 u11 u12 u13 w) (some T) :=
  grown_set (grown_set (grown_set (grown_set (grown_set (grown_set (grown_set (grown_set (grown_set (grown_set (grown_set (grown_set (grown_set (grown_set (World.grownBy.refl w (some T)) _ _) _ _) _ _) _ _) _ _) _ _) _ _) _ _) _ _) _ _) _ _) _ _) _ _) _ _

set_option maxRecDepth 100000 in
set_option maxHeartbeats 16000000 in
theorem lit_neg {P : Nat} {L : List TP} {N : Nat} {A : Option Addr} {c : Nat} {nx : Nat} (w : World) (hnx : nx ≤ L.length) (hS : PS P L N nx 0 0 A c w) (hmax : ∀ p ∈ L, p.1.s.length ≤ 65536) (K : Int) (k : Nat) (s : List UInt8) (n : Int) (q : Bool) (a : Nat) (hp : pk N (L.drop nx) 0 = (⟨k, s, n, q⟩, a)) (hK : (k : Int) = K) (h1 : (K == 1) = true) (hq : q = false) (hs : ((bs s).toList == [110, 111, 116]) = true) :
    Calls Tryz.prog 88 #[.pointer (some ⟨P, 0, none⟩)] w fun e w' => w.grownBy w' (some P) ∧ ∃ x v, e = .returned (.agg (litC x v).toArray) ∧ TermsAt w.heap.size w' x.a.a v ∧ PGot P L N A c 65700 (litP N (L.drop nx)) (fun y => y = x) w' := by
  have HK := Lib.hid hK
  have HP := Lib.hid hp
  have HLT := Lib.hid hS.lt
  have HN := Lib.hid hS.n
  have HNX := Lib.hid hnx
  have HMAX := Lib.hid hmax
  have HS := Lib.hid (fun W (hb : Below w.heap.size w W) => hS.below hb)
  have HX := Lib.hid (show nx + 1 ≤ 1000000 by have := hS.n; omega)
  have HR0 := Lib.hid (show (w.alloc (.cells #[.int .i64 0, .string ⟨#[]⟩, .slice none 0 0, .string ⟨#[]⟩, .bool false, .string ⟨#[]⟩, .bool false, .string ⟨#[]⟩, .int .i64 0, .bool false, .string ⟨#[]⟩, .bool false, .string ⟨#[]⟩, .int .i64 0] 47)).heap[w.heap.size]? = some (.cells #[.int .i64 0, .string ⟨#[]⟩, .slice none 0 0, .string ⟨#[]⟩, .bool false, .string ⟨#[]⟩, .bool false, .string ⟨#[]⟩, .int .i64 0, .bool false, .string ⟨#[]⟩, .bool false, .string ⟨#[]⟩, .int .i64 0] 47 (0, 0)) from heap_alloc_new w _)
  clear hS hnx hmax hK
  subst hq
  have HT := Lib.hid (k_yes (n := 1) HK.out h1 rfl)
  have HNOT := Lib.hid (show (s == notL) = true by rw [← bs_list s]; exact hs)
  obtain rfl : K = 1 := by simpa using h1
  clear h1
  have HIN := Lib.hid (next_in hp (by show k ≠ 0; have h1 := HT.out; simp at h1; omega))
  have HG0 := Lib.hid (show litP N (L.drop nx) = (atomP N (L.drop (nx + 1))).map (fun y => ⟨2, y, [], term0, term0⟩) by
    unfold litP
    rw [hp]
    simp only [HT.out, HNOT.out, Bool.not_false, Bool.and_self, if_true]
    rw [List.tail_drop]
    cases atomP N (L.drop (nx + 1)) <;> rfl)
  clear hp
  go_enter Tryz.func88, Tryz.ntmps88
  go_wp2_with (first
    | (go_at_call 36; ((with_reducible refine (peekK0_calls 1 k s n false a _ (HS.out _ ((Below.refl _ _).alloc (Nat.le_refl _) _)) HP.out HK.out).mono ?_); rintro e w1 ⟨rfl, hb1⟩; have HG1 := Lib.hid (grown_trans (World.grownBy_alloc w (.cells #[.int .i64 0, .string ⟨#[]⟩, .slice none 0 0, .string ⟨#[]⟩, .bool false, .string ⟨#[]⟩, .bool false, .string ⟨#[]⟩, .int .i64 0, .bool false, .string ⟨#[]⟩, .bool false, .string ⟨#[]⟩, .int .i64 0] 47) (some P)) (grown_below hb1 (some P))); have HR1 := Lib.hid (blk_keep (blk_keep HR0.out (grown_below hb1 none) (by simp)) (World.grownBy_alloc w1 (.cells #[.int .i64 1, .string (bs s), .int .i64 n, .bool false, .int .i64 (a : Int)] 71) none) (by simp)); have HS1 := Lib.hid (HS.out _ (below_then' (below_then' ((Below.refl w.heap.size w).alloc (Nat.le_refl _) _) hb1 (Nat.le_refl _)) ((Below.refl w1.heap.size w1).alloc (Nat.le_refl _) (.cells #[.int .i64 1, .string (bs s), .int .i64 n, .bool false, .int .i64 (a : Int)] 71)) (Nat.le_refl _)));  clear hb1))
    | (go_at_call 61; ((with_reducible refine (takeA_calls 1 k s n false a _ HS1.out HX.out HP.out HK.out).mono ?_); rintro e w2 ⟨rfl, hs2, hg2⟩; have HS2 := Lib.hid hs2; have HG2 := Lib.hid (grown_trans HG1.out (grown_trans (World.grownBy_alloc w1 (.cells #[.int .i64 1, .string (bs s), .int .i64 n, .bool false, .int .i64 (a : Int)] 71) (some P)) hg2)); have HR2 := Lib.hid (blk_keep HR1.out hg2 (by have := HLT.out; simp; omega)); clear hs2 hg2))
    | (go_at_call 34; ((with_reducible refine (atom_calls _ (po_mk HIN.out HS2.out) HMAX.out).mono ?_); rintro e w3 ⟨hg3, xa, va, rfl, hta, hgot⟩; obtain ⟨A3, c3, rfl⟩ := o_slice hta; have HG3 := Lib.hid (grown_trans HG2.out hg3); have hr3 := blk_keep HR2.out hg3 (by have := HLT.out; simp; omega); have HR3 := Lib.hid hr3; have z_0 := cell_of_row w3 (w.heap.size) 0 _ _ _ hr3; have z_1 := cell_of_row w3 (w.heap.size) 1 _ _ _ hr3; have z_2 := cell_of_row w3 (w.heap.size) 2 _ _ _ hr3; have z_3 := cell_of_row w3 (w.heap.size) 3 _ _ _ hr3; have z_4 := cell_of_row w3 (w.heap.size) 4 _ _ _ hr3; have z_5 := cell_of_row w3 (w.heap.size) 5 _ _ _ hr3; have z_6 := cell_of_row w3 (w.heap.size) 6 _ _ _ hr3; have z_7 := cell_of_row w3 (w.heap.size) 7 _ _ _ hr3; have z_8 := cell_of_row w3 (w.heap.size) 8 _ _ _ hr3; have z_9 := cell_of_row w3 (w.heap.size) 9 _ _ _ hr3; have z_10 := cell_of_row w3 (w.heap.size) 10 _ _ _ hr3; have z_11 := cell_of_row w3 (w.heap.size) 11 _ _ _ hr3; have z_12 := cell_of_row w3 (w.heap.size) 12 _ _ _ hr3; have z_13 := cell_of_row w3 (w.heap.size) 13 _ _ _ hr3; have y_0 := frozen_of_row w3 (w.heap.size) 0 _ _ hr3; have y_1 := frozen_of_row w3 (w.heap.size) 1 _ _ hr3; have y_2 := frozen_of_row w3 (w.heap.size) 2 _ _ hr3; have y_3 := frozen_of_row w3 (w.heap.size) 3 _ _ hr3; have y_4 := frozen_of_row w3 (w.heap.size) 4 _ _ hr3; have y_5 := frozen_of_row w3 (w.heap.size) 5 _ _ hr3; have y_6 := frozen_of_row w3 (w.heap.size) 6 _ _ hr3; have y_7 := frozen_of_row w3 (w.heap.size) 7 _ _ hr3; have y_8 := frozen_of_row w3 (w.heap.size) 8 _ _ hr3; have y_9 := frozen_of_row w3 (w.heap.size) 9 _ _ hr3; have y_10 := frozen_of_row w3 (w.heap.size) 10 _ _ hr3; have y_11 := frozen_of_row w3 (w.heap.size) 11 _ _ hr3; have y_12 := frozen_of_row w3 (w.heap.size) 12 _ _ hr3; have y_13 := frozen_of_row w3 (w.heap.size) 13 _ _ hr3; have HTA := Lib.hid (show TermsAt w.heap.size w3 xa.a (.slice A3 xa.a.length c3) from o_base hta HG2.out.size); have HGOT := Lib.hid hgot; clear hr3 hg3 hta hgot)))
  have hset := litSet_block HR3.out (.int .i64 2) (.string (bs xa.p)) (.slice A3 xa.a.length c3) (.string ⟨#[]⟩) (.bool false) (.string ⟨#[]⟩) (.bool false) (.string ⟨#[]⟩) (.int .i64 0) (.bool false) (.string ⟨#[]⟩) (.bool false) (.string ⟨#[]⟩) (.int .i64 0)
  have q0 := cell_of_row _ _ 0 _ _ _ hset
  have q1 := cell_of_row _ _ 1 _ _ _ hset
  have q2 := cell_of_row _ _ 2 _ _ _ hset
  have q3 := cell_of_row _ _ 3 _ _ _ hset
  have q4 := cell_of_row _ _ 4 _ _ _ hset
  have q5 := cell_of_row _ _ 5 _ _ _ hset
  have q6 := cell_of_row _ _ 6 _ _ _ hset
  have q7 := cell_of_row _ _ 7 _ _ _ hset
  have q8 := cell_of_row _ _ 8 _ _ _ hset
  have q9 := cell_of_row _ _ 9 _ _ _ hset
  have q10 := cell_of_row _ _ 10 _ _ _ hset
  have q11 := cell_of_row _ _ 11 _ _ _ hset
  have q12 := cell_of_row _ _ 12 _ _ _ hset
  have q13 := cell_of_row _ _ 13 _ _ _ hset
  have hsz := HG2.out.size
  have hkT := litSet_self (T := w.heap.size) w3 (.int .i64 2) (.string (bs xa.p)) (.slice A3 xa.a.length c3) (.string ⟨#[]⟩) (.bool false) (.string ⟨#[]⟩) (.bool false) (.string ⟨#[]⟩) (.int .i64 0) (.bool false) (.string ⟨#[]⟩) (.bool false) (.string ⟨#[]⟩) (.int .i64 0)
  refine bodyPost_ret (v := .agg #[.int .i64 2, .string (bs xa.p), .slice A3 xa.a.length c3, .string ⟨#[]⟩, .bool false, .string ⟨#[]⟩, .bool false, .string ⟨#[]⟩, .int .i64 0, .bool false, .string ⟨#[]⟩, .bool false, .string ⟨#[]⟩, .int .i64 0]) (by simp [results, Tryz.results88, go_sem, q0, q1, q2, q3, q4, q5, q6, q7, q8, q9, q10, q11, q12, q13]) rfl ⟨grown_litSet (HG3.out) (Nat.le_refl _) (.int .i64 2) (.string (bs xa.p)) (.slice A3 xa.a.length c3) (.string ⟨#[]⟩) (.bool false) (.string ⟨#[]⟩) (.bool false) (.string ⟨#[]⟩) (.int .i64 0) (.bool false) (.string ⟨#[]⟩) (.bool false) (.string ⟨#[]⟩) (.int .i64 0), ⟨2, xa, [], term0, term0⟩, .slice A3 xa.a.length c3, rfl, HTA.out.kept hkT (fun k hk => by cases hk; exact .inr ⟨_, _, _, HR3.out, by decide⟩), ?_⟩
  rw [HG0.out]
  exact (HGOT.out.map _ (by omega) (fun y hy => by rw [hy])).step hkT (fun k hk => by cases hk; exact ⟨by have := HLT.out; omega, _, _, _, HR3.out, by decide⟩)

set_option maxRecDepth 100000 in
set_option maxHeartbeats 16000000 in
theorem lit_pos {P : Nat} {L : List TP} {N : Nat} {A : Option Addr} {c : Nat} {nx : Nat} (w : World) (hnx : nx ≤ L.length) (hS : PS P L N nx 0 0 A c w) (hmax : ∀ p ∈ L, p.1.s.length ≤ 65536) (K : Int) (k : Nat) (s : List UInt8) (n : Int) (q : Bool) (a : Nat) (hp : pk N (L.drop nx) 0 = (⟨k, s, n, q⟩, a)) (hK : (k : Int) = K) (h1 : (K == 1) = true) (hq : q = false) (hs : ((bs s).toList == [110, 111, 116]) = false) (ho : isO N (L.drop nx) 1 = false) :
    Calls Tryz.prog 88 #[.pointer (some ⟨P, 0, none⟩)] w fun e w' => w.grownBy w' (some P) ∧ ∃ x v, e = .returned (.agg (litC x v).toArray) ∧ TermsAt w.heap.size w' x.a.a v ∧ PGot P L N A c 65700 (litP N (L.drop nx)) (fun y => y = x) w' := by
  have HK := Lib.hid hK
  have HP := Lib.hid hp
  have HLT := Lib.hid hS.lt
  have HN := Lib.hid hS.n
  have HNX := Lib.hid hnx
  have HMAX := Lib.hid hmax
  have HS := Lib.hid (fun W (hb : Below w.heap.size w W) => hS.below hb)
  have HX := Lib.hid (show nx + 1 ≤ 1000000 by have := hS.n; omega)
  have HR0 := Lib.hid (show (w.alloc (.cells #[.int .i64 0, .string ⟨#[]⟩, .slice none 0 0, .string ⟨#[]⟩, .bool false, .string ⟨#[]⟩, .bool false, .string ⟨#[]⟩, .int .i64 0, .bool false, .string ⟨#[]⟩, .bool false, .string ⟨#[]⟩, .int .i64 0] 47)).heap[w.heap.size]? = some (.cells #[.int .i64 0, .string ⟨#[]⟩, .slice none 0 0, .string ⟨#[]⟩, .bool false, .string ⟨#[]⟩, .bool false, .string ⟨#[]⟩, .int .i64 0, .bool false, .string ⟨#[]⟩, .bool false, .string ⟨#[]⟩, .int .i64 0] 47 (0, 0)) from heap_alloc_new w _)
  clear hS hnx hmax hK
  subst hq
  have HT := Lib.hid (k_yes (n := 1) HK.out h1 rfl)
  have HNOT := Lib.hid (show (s == notL) = false by rw [← bs_list s]; exact hs)
  have HO1 := Lib.hid ho
  obtain rfl : K = 1 := by simpa using h1
  clear h1 ho
  have HG0 := Lib.hid (show litP N (L.drop nx) = (atomP N (L.drop nx)).map (fun y => ⟨1, y, [], term0, term0⟩) by
    unfold litP
    rw [hp]
    simp only [HT.out, HNOT.out, HO1.out, Bool.not_false, Bool.and_self, Bool.and_false, Bool.false_eq_true, if_false, if_true]
    cases atomP N (L.drop nx) <;> rfl)
  clear hp
  go_enter Tryz.func88, Tryz.ntmps88
  go_wp2_with (first
    | (go_at_call 36; ((with_reducible refine (peekK0_calls 1 k s n false a _ (HS.out _ ((Below.refl _ _).alloc (Nat.le_refl _) _)) HP.out HK.out).mono ?_); rintro e w1 ⟨rfl, hb1⟩; have HG1 := Lib.hid (grown_trans (World.grownBy_alloc w (.cells #[.int .i64 0, .string ⟨#[]⟩, .slice none 0 0, .string ⟨#[]⟩, .bool false, .string ⟨#[]⟩, .bool false, .string ⟨#[]⟩, .int .i64 0, .bool false, .string ⟨#[]⟩, .bool false, .string ⟨#[]⟩, .int .i64 0] 47) (some P)) (grown_below hb1 (some P))); have HR1 := Lib.hid (blk_keep (blk_keep HR0.out (grown_below hb1 none) (by simp)) (World.grownBy_alloc w1 (.cells #[.int .i64 1, .string (bs s), .int .i64 n, .bool false, .int .i64 (a : Int)] 71) none) (by simp)); have HS1 := Lib.hid (HS.out _ (below_then' (below_then' ((Below.refl w.heap.size w).alloc (Nat.le_refl _) _) hb1 (Nat.le_refl _)) ((Below.refl w1.heap.size w1).alloc (Nat.le_refl _) (.cells #[.int .i64 1, .string (bs s), .int .i64 n, .bool false, .int .i64 (a : Int)] 71)) (Nat.le_refl _)));  clear hb1))
    | (go_at_call 115; ((with_reducible refine (operates1_calls false _ HS1.out HO1.out).mono ?_); rintro e w2 ⟨rfl, hb2⟩; have HS2 := Lib.hid (HS1.out.below hb2); have HG2 := Lib.hid (grown_trans HG1.out (grown_trans (World.grownBy_alloc w1 (.cells #[.int .i64 1, .string (bs s), .int .i64 n, .bool false, .int .i64 (a : Int)] 71) (some P)) (grown_below hb2 (some P)))); have HR2 := Lib.hid (blk_keep HR1.out (grown_below hb2 none) (by simp)); clear hb2))
    | (go_at_call 34; ((with_reducible refine (atom_calls _ (po_mk HNX.out HS2.out) HMAX.out).mono ?_); rintro e w3 ⟨hg3, xa, va, rfl, hta, hgot⟩; obtain ⟨A3, c3, rfl⟩ := o_slice hta; have HG3 := Lib.hid (grown_trans HG2.out hg3); have hr3 := blk_keep HR2.out hg3 (by have := HLT.out; simp; omega); have HR3 := Lib.hid hr3; have z_0 := cell_of_row w3 (w.heap.size) 0 _ _ _ hr3; have z_1 := cell_of_row w3 (w.heap.size) 1 _ _ _ hr3; have z_2 := cell_of_row w3 (w.heap.size) 2 _ _ _ hr3; have z_3 := cell_of_row w3 (w.heap.size) 3 _ _ _ hr3; have z_4 := cell_of_row w3 (w.heap.size) 4 _ _ _ hr3; have z_5 := cell_of_row w3 (w.heap.size) 5 _ _ _ hr3; have z_6 := cell_of_row w3 (w.heap.size) 6 _ _ _ hr3; have z_7 := cell_of_row w3 (w.heap.size) 7 _ _ _ hr3; have z_8 := cell_of_row w3 (w.heap.size) 8 _ _ _ hr3; have z_9 := cell_of_row w3 (w.heap.size) 9 _ _ _ hr3; have z_10 := cell_of_row w3 (w.heap.size) 10 _ _ _ hr3; have z_11 := cell_of_row w3 (w.heap.size) 11 _ _ _ hr3; have z_12 := cell_of_row w3 (w.heap.size) 12 _ _ _ hr3; have z_13 := cell_of_row w3 (w.heap.size) 13 _ _ _ hr3; have y_0 := frozen_of_row w3 (w.heap.size) 0 _ _ hr3; have y_1 := frozen_of_row w3 (w.heap.size) 1 _ _ hr3; have y_2 := frozen_of_row w3 (w.heap.size) 2 _ _ hr3; have y_3 := frozen_of_row w3 (w.heap.size) 3 _ _ hr3; have y_4 := frozen_of_row w3 (w.heap.size) 4 _ _ hr3; have y_5 := frozen_of_row w3 (w.heap.size) 5 _ _ hr3; have y_6 := frozen_of_row w3 (w.heap.size) 6 _ _ hr3; have y_7 := frozen_of_row w3 (w.heap.size) 7 _ _ hr3; have y_8 := frozen_of_row w3 (w.heap.size) 8 _ _ hr3; have y_9 := frozen_of_row w3 (w.heap.size) 9 _ _ hr3; have y_10 := frozen_of_row w3 (w.heap.size) 10 _ _ hr3; have y_11 := frozen_of_row w3 (w.heap.size) 11 _ _ hr3; have y_12 := frozen_of_row w3 (w.heap.size) 12 _ _ hr3; have y_13 := frozen_of_row w3 (w.heap.size) 13 _ _ hr3; have HTA := Lib.hid (show TermsAt w.heap.size w3 xa.a (.slice A3 xa.a.length c3) from o_base hta HG2.out.size); have HGOT := Lib.hid hgot; clear hr3 hg3 hta hgot)))
  have hset := litSet_block HR3.out (.int .i64 1) (.string (bs xa.p)) (.slice A3 xa.a.length c3) (.string ⟨#[]⟩) (.bool false) (.string ⟨#[]⟩) (.bool false) (.string ⟨#[]⟩) (.int .i64 0) (.bool false) (.string ⟨#[]⟩) (.bool false) (.string ⟨#[]⟩) (.int .i64 0)
  have q0 := cell_of_row _ _ 0 _ _ _ hset
  have q1 := cell_of_row _ _ 1 _ _ _ hset
  have q2 := cell_of_row _ _ 2 _ _ _ hset
  have q3 := cell_of_row _ _ 3 _ _ _ hset
  have q4 := cell_of_row _ _ 4 _ _ _ hset
  have q5 := cell_of_row _ _ 5 _ _ _ hset
  have q6 := cell_of_row _ _ 6 _ _ _ hset
  have q7 := cell_of_row _ _ 7 _ _ _ hset
  have q8 := cell_of_row _ _ 8 _ _ _ hset
  have q9 := cell_of_row _ _ 9 _ _ _ hset
  have q10 := cell_of_row _ _ 10 _ _ _ hset
  have q11 := cell_of_row _ _ 11 _ _ _ hset
  have q12 := cell_of_row _ _ 12 _ _ _ hset
  have q13 := cell_of_row _ _ 13 _ _ _ hset
  have hsz := HG2.out.size
  have hkT := litSet_self (T := w.heap.size) w3 (.int .i64 1) (.string (bs xa.p)) (.slice A3 xa.a.length c3) (.string ⟨#[]⟩) (.bool false) (.string ⟨#[]⟩) (.bool false) (.string ⟨#[]⟩) (.int .i64 0) (.bool false) (.string ⟨#[]⟩) (.bool false) (.string ⟨#[]⟩) (.int .i64 0)
  refine bodyPost_ret (v := .agg #[.int .i64 1, .string (bs xa.p), .slice A3 xa.a.length c3, .string ⟨#[]⟩, .bool false, .string ⟨#[]⟩, .bool false, .string ⟨#[]⟩, .int .i64 0, .bool false, .string ⟨#[]⟩, .bool false, .string ⟨#[]⟩, .int .i64 0]) (by simp [results, Tryz.results88, go_sem, q0, q1, q2, q3, q4, q5, q6, q7, q8, q9, q10, q11, q12, q13]) rfl ⟨grown_litSet (HG3.out) (Nat.le_refl _) (.int .i64 1) (.string (bs xa.p)) (.slice A3 xa.a.length c3) (.string ⟨#[]⟩) (.bool false) (.string ⟨#[]⟩) (.bool false) (.string ⟨#[]⟩) (.int .i64 0) (.bool false) (.string ⟨#[]⟩) (.bool false) (.string ⟨#[]⟩) (.int .i64 0), ⟨1, xa, [], term0, term0⟩, .slice A3 xa.a.length c3, rfl, HTA.out.kept hkT (fun k hk => by cases hk; exact .inr ⟨_, _, _, HR3.out, by decide⟩), ?_⟩
  rw [HG0.out]
  exact (HGOT.out.map _ (by omega) (fun y hy => by rw [hy])).step hkT (fun k hk => by cases hk; exact ⟨by have := HLT.out; omega, _, _, _, HR3.out, by decide⟩)

end Go.Proofs.YtminbdcabacfbaaGreatDoor.V
