/- The table of package symtab as a list: its key type, its state, and what each of its methods does to it. No condition. -/
import Derived.Test.YtfdjfkmgablmoaaPSymtabPlaysx0
import Derived.Test.YtfdjfkmgablmoaaPSymtabPlaysx1
import Derived.Test.YtfdjfkmgablmoaaPSymtabPlaysx2
import Derived.Test.YtfdjfkmgablmoaaPSymtabPlaysx3
import Derived.Maps.OwnSet
import Derived.DeepKeys4
import Derived.Lib.Hide
namespace Go.Proofs.Ytfdjfkmgablmoaa.Tab
open Go.RowKit Go.Maps Go.Proofs.YtfdjfkmgablmoaaW.PrintWords Go.Proofs.Ytfdjfkmgablmoaa.PSymtabPlays

theorem laidOut : laidOutB Try.prog = true := by kernel_rfl
theorem row29 : 29 < Try.prog.types.size := of_decide_eq_true (by kernel_rfl)
theorem law29 : Keyed Try.prog 29 := Keyed.of_law (deep_law_laid laidOut (m := 2) (by omega) row29 (by kernel_rfl) (by kernel_rfl))
theorem zero3 (w : World) : (zeroValue 3).run Try.prog w = .ok (.int .i64 0) w := by kernel_rfl

/-- A value as the machine has it. -/
def kv (x : S29) : Value := .agg #[.bool x.f0, .string x.f1, .int .i64 x.f2]
def Ok (x : S29) : Prop := x.f1.size ≤ maxLen ∧ (Lit.int .i64 x.f2).wf = true
/-- .. without what plays no part -/
def norm (x : S29) : S29 := if x.f0 = true then ⟨true, x.f1, 0⟩ else ⟨false, ⟨#[]⟩, x.f2⟩

theorem Ok.norm {x : S29} (h : Ok x) : Ok (norm x) := by
  unfold Tab.norm
  split
  · exact ⟨h.1, (by decide : (Lit.int .i64 0).wf = true)⟩
  · exact ⟨(by simp [maxLen, ByteArray.size] : (⟨#[]⟩ : ByteArray).size ≤ maxLen), h.2⟩

theorem kv_inj {x y : S29} (h : kv x = kv y) : x = y := by
  obtain ⟨a, b, c⟩ := x
  obtain ⟨a', b', c'⟩ := y
  simp [kv] at h
  simp [h]

theorem keyT : Try.prog.keyType 29 = true := by kernel_rfl
theorem cells29 : Try.prog.cellsOf 29 = 3 := by kernel_rfl
theorem cells4 : Try.prog.cellsOf 4 = 1 := by kernel_rfl
theorem cells9 : Try.prog.cellsOf 9 = 1 := by kernel_rfl
theorem cells2 : Try.prog.cellsOf 2 = 1 := by kernel_rfl
theorem tsize : ∃ m, Try.prog.types.size + 1 = m + 2 := ⟨Try.prog.types.size - 1, by have := row29; omega⟩
theorem lits_bool (m : Nat) (b : Bool) : Try.prog.keyLits (m + 1) 4 [.bool b] = some [.bool b] := by simp [Program.keyLits, Try.underlying4]
theorem lits_string (m : Nat) (s : ByteArray) (h : s.size ≤ maxLen) : Try.prog.keyLits (m + 1) 9 [.string s] = some [.string s.data.toList] := by simp [Program.keyLits, Try.underlying9, h]
theorem lits_int (m : Nat) (n : Int) (h : (Lit.int .i64 n).wf = true) : Try.prog.keyLits (m + 1) 2 [.int .i64 n] = some [.int .i64 n] := by simp [Program.keyLits, Try.underlying2, h]
theorem keyOf_kv {x : S29} (h : Ok x) : ∃ l, keyOf Try.prog 29 (kv x) = some l := by
  obtain ⟨b, s, n⟩ := x
  obtain ⟨h1, h2⟩ := h
  simp only at h1 h2
  obtain ⟨m, hm⟩ := tsize
  unfold keyOf kv
  rw [Try.underlying29]
  simp only [keyT, Bool.true_and, hm]
  rw [if_pos (by simp [Value.formed, Try.underlying29, cells29])]
  have e : ∃ ls, Try.prog.keyLits (m + 2) 29 (Value.agg #[.bool b, .string s, .int .i64 n]).cells.toList = some ls := by
    simp [Program.keyLits, Try.underlying29, Value.cells, cells29, cells4, cells9, cells2, h1, h2]
  obtain ⟨ls, hls⟩ := e
  exact ⟨_, by rw [hls]; rfl⟩

theorem key_eq (x : S29) : symtab_key.f x.f0 x.f1 x.f2 = some ((norm x).f0, (norm x).f1, (norm x).f2) := by
  unfold symtab_key.f value_Sym.f value_Int.f Tab.norm
  split <;> simp_all
theorem key_any (x : S29) (w : World) : Calls Try.prog 19 #[.agg #[.bool x.f0, .string x.f1, .int .i64 x.f2]] w fun e w' => e = .returned (.agg #[.bool (norm x).f0, .string (norm x).f1, .int .i64 (norm x).f2]) ∧ Below w.heap.size w w' :=
  symtab_key.calls _ _ _ _ _ _ w (key_eq x)

/-- The key as a map's datum has it. -/
def IsKl (x : S29) (l : Lit) : Prop := keyOf Try.prog 29 (.agg #[.bool x.f0, .string x.f1, .int .i64 x.f2]) = some l

def NumberPost (D : DataW Unit) (kl : Lit) (w : World) (e : Ending) (w' : World) : Prop :=
  ∃ c, e = .returned (.tuple #[.int .i64 c, .bool (Maps.has D kl)]) ∧ D.atKey kl (.lit (.int .i64 0)) = .lit (.int .i64 c) ∧ Below w.heap.size w w'

def Owns (w : World) (bm n : Nat) (D : DataW Unit) : Prop := w.ownsMap Try.prog 29 (plainElem Try.prog 3) bm n D
theorem Owns.below {w w' : World} {bm n : Nat} {D : DataW Unit} (h : Owns w bm n D) (hb : Below w.heap.size w w') : Owns w' bm n D := World.ownsMap.kept h (grown_of_below hb none) (by simp)
theorem Owns.alloc {w : World} {bm n : Nat} {D : DataW Unit} (h : Owns w bm n D) (o : Obj) : Owns (w.alloc o) bm n D := World.ownsMap.alloc h o
theorem Owns.drew {w : World} {bm n : Nat} {D : DataW Unit} (h : Owns w bm n D) : Owns w.drew bm n D := World.ownsMap.drew h

theorem look_all {w : World} {bm n : Nat} {D : DataW Unit} (h : Owns w bm n D) {x : S29} {kl : Lit} (hk : IsKl x kl) : ∃ c, D.atKey kl (.lit (.int .i64 0)) = .lit (.int .i64 c) ∧
    ∀ W : World, Owns W bm n D → (Instr.lookup 43 (.map (some bm)) (.agg #[.bool x.f0, .string x.f1, .int .i64 x.f2]) true).run Try.prog W = .ok (.tuple #[.int .i64 c, .bool (Maps.has D kl)]) W := by
  have one : ∀ W : World, Owns W bm n D → ∃ c, D.atKey kl (.lit (.int .i64 0)) = .lit (.int .i64 c) ∧ (Instr.lookup 43 (.map (some bm)) (.agg #[.bool x.f0, .string x.f1, .int .i64 x.f2]) true).run Try.prog W = .ok (.tuple #[.int .i64 c, .bool (Maps.has D kl)]) W := by
    intro W hW
    obtain ⟨v, ps, hrun, hv⟩ := World.ownsMap.look_ok hW law29 Try.underlying43 (zero3 W) (zd := .lit (.int .i64 0)) (zp := []) (plainElem_int Try.underlying3 (by decide)) hk
    obtain ⟨c, rfl, hc, _⟩ := plainElem_int_inv Try.underlying3 hv
    exact ⟨c, congrArg Prod.fst hc, hrun⟩
  obtain ⟨c, hc, _⟩ := one w h
  refine ⟨c, hc, fun W hW => ?_⟩
  obtain ⟨c', hc', hr⟩ := one W hW
  rw [hc] at hc'
  injection hc' with hc'
  injection hc' with _ hc'
  subst hc'
  exact hr

set_option maxHeartbeats 4000000 in
set_option maxRecDepth 100000 in
theorem number_any (tb bm n : Nat) (D : DataW Unit) (x : S29) (w : World) (c0 : w.cell? ⟨tb, 0, none⟩ = some (.map (some bm))) (hown : Owns w bm n D)
    (kl : Lit) (hkl : IsKl (norm x) kl) :
    Calls Try.prog 17 #[.pointer (some ⟨tb, 0, none⟩), .agg #[.bool x.f0, .string x.f1, .int .i64 x.f2]] w (NumberPost D kl w) := by
  have htb := World.block_lt_of_cell? w _ c0
  obtain ⟨c, hc, hlk⟩ := look_all hown hkl
  have HC := Aside0.mk hc
  clear hc
  have hO := (hown.alloc (.cells #[.bool x.f0, .string x.f1, .int .i64 x.f2] 29)).drew
  go_enter Try.func17, Try.ntmps17
  go_wp2_with fail
  go_region_held3 (fun w' => (w'.cell? ⟨tb, 0, none⟩ = some (.map (some bm)) ∧ w'.cell? ⟨w.heap.size, 0, none⟩ = some (.bool x.f0) ∧ w'.cell? ⟨w.heap.size, 1, none⟩ = some (.string x.f1) ∧ w'.cell? ⟨w.heap.size, 2, none⟩ = some (.int .i64 x.f2)) ∧ Owns w' bm n D ∧ Below w.heap.size w w')
    (first | (go_split_ands; exact ⟨⟨by assumption, by assumption, by assumption, by assumption⟩, by assumption, by assumption⟩) | (go_split_ands; refine ⟨⟨pw_cell_below hb (by assumption), pw_cell_below hb (by assumption), pw_cell_below hb (by assumption), pw_cell_below hb (by assumption)⟩, Owns.below (by assumption) hb, below_step (by assumption) hb⟩) | (refine ⟨⟨?_, ?_, ?_, ?_⟩, by assumption, below_drew (below_alloc (Below.refl _ _) _)⟩ <;> go_simp))
    (first
      | (go_at_call 19; refine (key_any x _).mono ?_; rintro e w' ⟨rfl, hb⟩))
  go_wp2
  go_ret2
  go_split_ands
  exact ⟨c, rfl, HC.out, by assumption⟩

def NotePost (D : DataW Unit) (kl : Lit) (i : Int) (bm n : Nat) (w : World) (e : Ending) (w' : World) : Prop :=
  e = .returned (.tuple #[]) ∧ Owns w' bm (n + 1) (D.put kl (.lit (.int .i64 i))) ∧ w.grownBy w' (some bm)

theorem store_all {bm n : Nat} {D : DataW Unit} {x : S29} {kl : Lit} (hk : IsKl x kl) (hn : n < maxLen) (i : Int) (hi : (Lit.int .i64 i).wf = true) : ∃ f : World → World,
    ∀ W : World, Owns W bm n D → (Instr.mapUpdate 43 (.map (some bm)) (.agg #[.bool x.f0, .string x.f1, .int .i64 x.f2]) (.int .i64 i)).run Try.prog W = .ok () (f W) ∧ Owns (f W) bm (n + 1) (D.put kl (.lit (.int .i64 i))) ∧ W.mapTurned (f W) bm := by
  have one : ∀ W : World, ∃ W', Owns W bm n D → (Instr.mapUpdate 43 (.map (some bm)) (.agg #[.bool x.f0, .string x.f1, .int .i64 x.f2]) (.int .i64 i)).run Try.prog W = .ok () W' ∧ Owns W' bm (n + 1) (D.put kl (.lit (.int .i64 i))) ∧ W.mapTurned W' bm := by
    intro W
    by_cases hW : Owns W bm n D
    · obtain ⟨W', h1, h2, h3⟩ := World.ownsMap.store hW law29 Try.underlying43 hn hk (plainElem_int Try.underlying3 hi)
      exact ⟨W', fun _ => ⟨h1, h2, h3⟩⟩
    · exact ⟨W, fun h => absurd h hW⟩
  exact ⟨fun W => Classical.choose (one W), fun W hW => Classical.choose_spec (one W) hW⟩

theorem grown_below {w w1 w2 : World} {row : Option Nat} (h : w.grownBy w1 row) (hb : Below w1.heap.size w1 w2) : w.grownBy w2 row := by
  refine ⟨hb.os.trans h.os, hb.tape.trans h.tape, hb.output.trans h.output, Nat.le_trans h.size hb.size, fun k hk hr => (hb.block k (Nat.lt_of_lt_of_le hk h.size)).trans (h.block k hk hr)⟩

set_option maxHeartbeats 4000000 in
set_option maxRecDepth 100000 in
theorem note_any (tb bm n : Nat) (D : DataW Unit) (x : S29) (i : Int) (w : World) (c0 : w.cell? ⟨tb, 0, none⟩ = some (.map (some bm))) (hown : Owns w bm n D) (hn : n < maxLen)
    (kl : Lit) (hkl : IsKl (norm x) kl) (hi : (Lit.int .i64 i).wf = true) :
    Calls Try.prog 18 #[.pointer (some ⟨tb, 0, none⟩), .agg #[.bool x.f0, .string x.f1, .int .i64 x.f2], .int .i64 i] w (NotePost D kl i bm n w) := by
  have htb := World.block_lt_of_cell? w _ c0
  obtain ⟨f, hf⟩ := store_all (bm := bm) (D := D) hkl hn i hi
  have hrun := fun W h => (hf W h).1
  have HF := Aside0.mk hf
  clear hf
  have hO := (hown.alloc (.cells #[.bool x.f0, .string x.f1, .int .i64 x.f2] 29)).drew
  go_enter Try.func18, Try.ntmps18
  go_wp2_with fail
  go_region_with (first
      | (go_at_call 19; refine (key_any x _).mono ?_; rintro e w' ⟨rfl, hb⟩; have hO1 := Owns.below hO hb; have hc1 := fun (a : Addr) v => pw_cell_below hb (a := a) (v := v)))
  all_goals
    go_end0
    refine ⟨rfl, (HF.out _ hO1).2.1, ?_⟩
    exact World.grownBy.trans (grown_of_below (below_step (below_drew (below_alloc (Below.refl _ _) _)) hb) (some bm)) (HF.out _ hO1).2.2.grown
end Go.Proofs.Ytfdjfkmgablmoaa.Tab
