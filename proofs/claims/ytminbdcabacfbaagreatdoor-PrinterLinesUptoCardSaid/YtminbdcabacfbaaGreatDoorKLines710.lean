/- What was parsed may be; a program's text in lines: with no program in sight. (*strings.Builder).copyCheck and WriteString, in this program, whose copyCheck ends where the address is another. Lists of tokens in memory. strings.Join, and printer.together: texts put together. Programs in memory, to be read. cmp.Compare at strings and at whole numbers, value.Compare, value.Same, the runes' kinds, Sym, Int: each by a contract; Compare's box is new memory. value.Holds: what any operator says of two values. Printed by genholds.py. printer.variable, bare, name, mayTerm: whether a name may be a variable's, a term may be. printer.mayTerm: whether a term may be. printer.all of terms, mayAtom. How long texts may be: with no program in sight. parse.Parse: a text's program. printer.May$1: whether a declaration may be. printer.all of declarations. -/
import Derived.Shelf.Strings.BuilderK
import Derived.Lib.Hide
import Derived.KernelRfl
import Derived.IntWalk
import Derived.LoopN
import Derived.Lib.ItoaLen
import Derived.Test.YtminbdcabacfbaaGreatDoorKLines79
namespace Go.Proofs.YtminbdcabacfbaaGreatDoor.V
set_option linter.unusedVariables false
set_option linter.unusedSimpArgs false

def noLine (l : List UInt8) : Prop := ∀ c ∈ l, c ≠ 10
theorem noLine_app {a b : List UInt8} (h1 : noLine a) (h2 : noLine b) : noLine (a ++ b) := fun c hc => (List.mem_append.1 hc).elim (h1 c) (h2 c)
theorem noLine_word {l : List UInt8} (h : ∀ c ∈ l, ofB wrdI c = true) : noLine l := by
  intro c hc e
  subst e
  exact absurd (h 10 hc) (by decide)
theorem noLine_esc (s : List UInt8) : noLine (escL s) := by
  induction s with
  | nil => intro c hc; cases hc
  | cons c s ih =>
    rw [escL_cons]
    refine noLine_app ?_ ih
    rcases escB_cases c with ⟨rfl, e⟩ | ⟨rfl, e⟩ | ⟨rfl, e⟩ | ⟨h1, h2, h3, e⟩ <;> rw [e]
    · intro x hx; simp at hx; rcases hx with rfl | rfl <;> decide
    · intro x hx; simp at hx; rcases hx with rfl | rfl <;> decide
    · intro x hx; simp at hx; subst hx; decide
    · intro x hx; simp at hx; subst hx; exact h1
theorem noLine_itoa (n : Int) : noLine (Lib.itoa n) := by
  have hd : ∀ u, noLine (Lib.decDigits u) := by
    intro u c hc e
    subst e
    exact absurd ((digs u).1 10 hc) (by decide)
  unfold Lib.itoa
  split
  · exact noLine_app (a := [45]) (by intro c hc; simp at hc; subst hc; decide) (hd _)
  · exact hd _
theorem noLine_term {t : TermL} (h : mayT t = true) : noLine (termT t) := by
  unfold mayT at h
  unfold termT
  by_cases hv : t.v = true
  · rw [if_pos hv] at h ⊢
    simp only [Bool.and_eq_true] at h
    exact noLine_word (varL_fit h.1.1.1).2.1
  · rw [if_neg hv]
    unfold textL
    split
    · exact noLine_itoa _
    · split
      · rename_i hp
        exact noLine_word (plainL_sml hp.1).2.1
      · exact noLine_app (noLine_app (a := [39]) (by intro c hc; simp at hc; subst hc; decide) (noLine_esc _)) (by intro c hc; simp at hc; subst hc; decide)
theorem noLine_sep {l : List (List UInt8)} (h : ∀ x ∈ l, noLine x) : noLine (sepT cmaT l) := by
  match l, h with
  | [], _ => intro c hc; cases hc
  | [x], h => exact h x (List.mem_cons_self ..)
  | x :: y :: r, h =>
    rw [sepT]
    exact noLine_app (noLine_app (h x (List.mem_cons_self ..)) (by intro c hc; simp [cmaT] at hc; rcases hc with rfl | rfl <;> decide)) (noLine_sep fun z hz => h z (List.mem_cons_of_mem _ hz))
  termination_by l.length
theorem noLine_name {p : List UInt8} (h : nameL p = true) : noLine p := by
  unfold nameL at h
  rw [Bool.and_eq_true] at h
  exact noLine_word (plainL_sml h.1).2.1
theorem noLine_atom {a : AtomL} (h : mayA a = true) : noLine (atomT a) := by
  unfold mayA at h
  simp only [Bool.and_eq_true, decide_eq_true_eq, List.all_eq_true] at h
  have hp := noLine_name h.1.1
  unfold atomT
  split
  · exact hp
  · refine noLine_app (noLine_app (noLine_app hp (by intro c hc; simp at hc; subst hc; decide)) (noLine_sep ?_)) (by intro c hc; simp at hc; subst hc; decide)
    intro x hx
    obtain ⟨t, ht, rfl⟩ := List.mem_map.1 hx
    exact noLine_term (h.2 t ht)
theorem noLine_op {o : List UInt8} (h : opL o = true) : noLine o := by
  unfold opL at h
  simp only [Bool.or_eq_true, beq_iff_eq] at h
  rcases h with ((((rfl | rfl) | rfl) | rfl) | rfl) | rfl <;> (intro c hc; simp at hc) <;> (try rcases hc with rfl | rfl) <;> (try subst hc) <;> decide
theorem noLine_lit {l : LitL} (h : mayL l = true) : noLine (litT l) := by
  have hb : noLine [32] := by intro c hc; simp at hc; subst hc; decide
  unfold mayL at h
  unfold litT
  by_cases h3 : l.k = 3
  · rw [if_pos h3] at h
    simp only [Bool.and_eq_true] at h
    rw [if_neg (by omega), if_neg (by omega), if_pos h3]
    exact noLine_app (noLine_app (noLine_app (noLine_app (noLine_term h.1.1.1.2) hb) (noLine_op h.1.1.1.1)) hb) (noLine_term h.1.1.2)
  · rw [if_neg h3] at h
    simp only [Bool.and_eq_true] at h
    split
    · exact noLine_atom h.2
    · split
      · exact noLine_app (by intro c hc; simp at hc; rcases hc with rfl | rfl | rfl | rfl <;> decide) (noLine_atom h.2)
      · intro c hc; cases hc
/-- A clause's text, without its point. -/
theorem rule_line {r : RuleL} (h : mayR r = true) : ∃ x, ruleT r = x ++ [46] ∧ noLine x := by
  unfold mayR at h
  simp only [Bool.and_eq_true, decide_eq_true_eq, List.all_eq_true] at h
  have ha := noLine_atom h.1.1
  unfold ruleT
  split
  · exact ⟨_, rfl, ha⟩
  · refine ⟨_, rfl, noLine_app (noLine_app ha (by intro c hc; simp at hc; rcases hc with rfl | rfl | rfl | rfl <;> decide)) (noLine_sep ?_)⟩
    intro x hx
    obtain ⟨t, ht, rfl⟩ := List.mem_map.1 hx
    exact noLine_lit (h.2 t ht)
theorem decl_line {d : DeclL} (h : mayD d = true) : ∃ x, declT d = x ++ [46] ∧ noLine x := by
  unfold mayD at h
  simp only [Bool.and_eq_true, decide_eq_true_eq] at h
  exact ⟨_, rfl, noLine_app (noLine_app (noLine_name h.1.1) (by intro c hc; simp at hc; subst hc; decide)) (noLine_itoa _)⟩
/-- The lines of a text, each of which ends in a point; the byte ahead; none if one doesn't. -/
def linesL : UInt8 → List UInt8 → Option Nat
  | _, [] => some 0
  | p, c :: r => if c = 10 then (if p = 46 then (linesL c r).map (· + 1) else none) else linesL c r
theorem linesL_line {x : List UInt8} (h : noLine x) (r : List UInt8) : ∀ p, linesL p (x ++ [46, 10] ++ r) = (linesL 10 r).map (· + 1) := by
  induction x with
  | nil => intro p; simp [linesL]
  | cons c x ih =>
    intro p
    have hc := h c (List.mem_cons_self ..)
    show linesL p (c :: (x ++ [46, 10] ++ r)) = _
    rw [linesL, if_neg hc]
    exact ih (fun y hy => h y (List.mem_cons_of_mem _ hy)) c
theorem linesL_flat {α : Type} {text : α → List UInt8} {r : List UInt8} {m : Nat} (hr : ∀ p, linesL p r = some m) : ∀ (l : List α), (∀ a ∈ l, ∃ x, text a = x ++ [46] ∧ noLine x) → ∀ p, linesL p ((l.flatMap fun a => text a ++ [10]) ++ r) = some (l.length + m)
  | [], _, p => by simpa using hr p
  | a :: l, h, p => by
    obtain ⟨x, e, hx⟩ := h a (List.mem_cons_self ..)
    have ih := linesL_flat hr l (fun b hb => h b (List.mem_cons_of_mem _ hb)) 10
    rw [List.flatMap_cons, e, List.append_assoc, show x ++ [46] ++ [10] = x ++ [46, 10] by simp, linesL_line hx, ih]
    simp
    omega
theorem prog_lines {ds : List DeclL} {rs : List RuleL} (h : mayP ds rs = true) (p : UInt8) : linesL p (prgT ds rs) = some (ds.length + rs.length) := by
  unfold mayP at h
  simp only [Bool.and_eq_true, decide_eq_true_eq, List.all_eq_true] at h
  unfold prgT
  refine linesL_flat (m := rs.length) ?_ ds (fun d hd => decl_line (h.1.2 d hd)) p
  intro q
  have := linesL_flat (text := ruleT) (r := []) (m := 0) (fun _ => rfl) rs (fun r hr => rule_line (h.2 r hr)) q
  rw [List.append_nil] at this
  simpa using this
/-- The law: a program behind a program is printed rules behind rules. -/
theorem prog_behind (ds : List DeclL) (rs rs2 : List RuleL) : prgT ds (rs ++ rs2) = prgT ds rs ++ prgT [] rs2 := by
  unfold prgT
  rw [List.flatMap_append]
  simp
end Go.Proofs.YtminbdcabacfbaaGreatDoor.V

namespace Go.Proofs.YtminbdcabacfbaaGreatDoor.V
set_option linter.unusedVariables false
set_option linter.unusedSimpArgs false
open Go.RowKit

theorem infoBld : (Tryz.prog.info? 84).map (·.size) = some 2 := by kernel_rfl
theorem liesBld : liesAt Tryz.prog Tryz.prog.depth 84 (2 / Tryz.prog.cellsOf 84) 0 84 1 = true := by kernel_rfl
theorem byteInfo : (Tryz.prog.info? 5).map (fun i => (i.zero, i.size, i.bytes)) = some (some (.int .u8 0), 1, 1) := by kernel_rfl
/-- A builder that holds some bytes; its cells are of no place below B. -/
abbrev BldAt (B b : Nat) (p : Value) (bs : List Value) (w : World) : Prop := Lib.BuilderAtF 84 5 B b p bs w
abbrev IsBld (B b : Nat) (bs : List Value) (w : World) : Prop := Lib.IsBuilderF 84 5 B b bs w

set_option maxHeartbeats 1000000 in
set_option maxRecDepth 100000 in
theorem bcheck_used (b : Nat) (w : World) (h0 : w.cell? ⟨b, 0, none⟩ = some (.pointer (some ⟨b, 0, none⟩))) :
    Calls Tryz.prog 73 #[.pointer (some ⟨b, 0, none⟩)] w fun e w' => e = .returned (.tuple #[]) ∧ w' = w := by
  obtain ⟨j, hj, _⟩ := Option.map_eq_some_iff.1 infoBld
  go_enter Tryz.func73, Tryz.ntmps73
  go_wp2
  rw [Lib.run_neq_ptr_same w _ Tryz.underlying81 hj]
  go_wp2
  go_end0
  exact ⟨rfl, rfl⟩
set_option maxHeartbeats 1000000 in
set_option maxRecDepth 100000 in
theorem bcheck_fresh (b : Nat) (w : World) (h0 : w.cell? ⟨b, 0, none⟩ = some (.pointer none)) (hsh : w.shape? b = some (84, 2)) (hfz : w.frozen? ⟨b, 0, none⟩ = false) :
    Calls Tryz.prog 73 #[.pointer (some ⟨b, 0, none⟩)] w fun e w' => e = .returned (.tuple #[]) ∧ w' = w.setCell ⟨b, 0, none⟩ (.pointer (some ⟨b, 0, none⟩)) := by
  obtain ⟨j, hj, hjs⟩ := Option.map_eq_some_iff.1 infoBld
  go_enter Tryz.func73, Tryz.ntmps73
  go_wp2
  rw [Lib.run_to_unsafe w ⟨b, 0, none⟩ Tryz.underlying81 Tryz.underlying143 hj (by rw [hjs]; decide) hsh (Nat.zero_lt_succ 1)]
  simp only [Result.andThen]
  rw [Oper.upon_value]
  go_wp2
  rw [run_callFunc_extern Tryz.func103 (by kernel_rfl) (by kernel_rfl) (by kernel_rfl) (e := Extern.AbiNoEscape.same) (by kernel_rfl)]
  rw [Lib.run_noEscape]
  simp only [Result.andThen]
  rw [Oper.upon_value]
  go_wp2
  rw [Lib.run_from_unsafe w ⟨b, 0, none⟩ Tryz.underlying143 Tryz.underlying81 hj hsh liesBld]
  simp only [Result.andThen]
  rw [Oper.upon_value]
  go_wp2
  go_end0
  exact ⟨rfl, rfl⟩
theorem bcheck_calls (B b : Nat) (bs : List Value) (w : World) (h : IsBld B b bs w) :
    Calls Tryz.prog 73 #[.pointer (some ⟨b, 0, none⟩)] w fun e w' => e = .returned (.tuple #[]) ∧ (BldAt B b (.pointer (some ⟨b, 0, none⟩)) bs w' ∧ Below B w w') := by
  rcases h with h | h
  · refine (bcheck_fresh b w h.cell0 h.shape h.frozen0).mono ?_
    rintro e w' ⟨rfl, rfl⟩
    exact ⟨rfl, h.used _, (Below.refl B w).setCell (p := ⟨b, 0, none⟩) h.1 _⟩
  · refine (bcheck_used b w h.cell0).mono ?_
    rintro e w' ⟨rfl, rfl⟩
    exact ⟨rfl, h, Below.refl B _⟩

set_option maxHeartbeats 2000000 in
set_option maxRecDepth 100000 in
theorem bwrite_calls (B b : Nat) (bs : List Value) (s : ByteArray) (w : World) (h : IsBld B b bs w) (hlen : bs.length + s.size ≤ 140737488355328) (hBw : B ≤ w.heap.size) :
    Calls Tryz.prog 39 #[.pointer (some ⟨b, 0, none⟩), .string s] w fun e w' => e = .returned (.tuple #[.int .i64 s.size, .nilIface]) ∧ (BldAt B b (.pointer (some ⟨b, 0, none⟩)) (bs ++ Lib.strCells s) w' ∧ Below B w w') := by
  obtain ⟨i0, hi, hz0, hz1, hz2⟩ := info_parts byteInfo
  go_enter Tryz.func39, Tryz.ntmps39
  go_wp2_with (go_at_call 73; refine (bcheck_calls B b bs _ h).mono ?_)
  rintro e w1 ⟨rfl, h1, hb1⟩
  obtain ⟨hB, v, hbk, hown, hne⟩ := h1
  have c0 : w1.cell? ⟨b, 0, none⟩ = some (.pointer (some ⟨b, 0, none⟩)) := by rw [Lib.cell_of_heap hbk]; rfl
  have c1 : w1.cell? ⟨b, 1, none⟩ = some v := by rw [Lib.cell_of_heap hbk]; rfl
  go_wp2_with (at_builtin; refine Lib.wpList_append_own_stringF _ rfl _ _ 82 9 rfl B 5 i0 Tryz.underlying82 Tryz.underlying9 hi hz0 hz1 hz2 _ _ _ rfl hown s rfl ?c3 ?c4 ?c5 ?_)
  case c3 => unfold maxLen; omega
  case c4 => omega
  case c5 => have := hb1.size; omega
  intro v' w2 hown' hgrow _
  have hlt : b < w1.heap.size := by
    rcases Nat.lt_or_ge b w1.heap.size with h' | h'
    · exact h'
    · simp [Array.getElem?_eq_none h'] at hbk
  have hb2 : w2.heap[b]? = some (.cells #[.pointer (some ⟨b, 0, none⟩), v] 84 (0, 0)) := by
    rw [hgrow.block b hlt (fun e => hne e.symm)]
    exact hbk
  have d0 : w2.cell? ⟨b, 0, none⟩ = some (.pointer (some ⟨b, 0, none⟩)) := by rw [Lib.cell_of_heap hb2]; rfl
  have d1 : w2.cell? ⟨b, 1, none⟩ = some v := by rw [Lib.cell_of_heap hb2]; rfl
  have f1 : w2.frozen? ⟨b, 1, none⟩ = false := Lib.frozen_of_heap hb2 1
  obtain ⟨ao, n', cap, rfl⟩ : ∃ ao n' cap, v' = .slice ao n' cap := by
    rcases hown'.2 with ⟨hv, _⟩ | ⟨g, cap, cur, fz, hv, _⟩
    · exact ⟨_, _, _, hv⟩
    · exact ⟨_, _, _, hv⟩
  go_wp2
  go_ret2
  refine ⟨rfl, ?_, ?_⟩
  · exact Lib.BuilderAtF.put (T := 84) (e := 5) hB hb2 (bs' := bs ++ Lib.strCells s) (by simpa [Lib.strCells_length] using hown') (by decide)
  · exact (hb1.grown hgrow (by have := hb1.size; omega) (fun k hk => (hown.lt k hk).1)).setCell (p := ⟨b, 1, none⟩) hB _
theorem bld_below {B b : Nat} {p : Value} {bs : List Value} {w w' : World} (h : BldAt B b p bs w) (hb : Below w.heap.size w w') : BldAt B b p bs w' := by
  have hlt := h.lt
  obtain ⟨hB, v, hbk, hown, hne⟩ := h
  exact ⟨hB, v, (hb.block b hlt).trans hbk, hown.kept (row := none) ⟨hb.os, hb.tape, hb.output, hb.size, fun k hk _ => hb.block k hk⟩ (by cases hv : v.ownBlock <;> simp), hne⟩
theorem isbld_below {B b : Nat} {bs : List Value} {w w' : World} (h : IsBld B b bs w) (hb : Below w.heap.size w w') : IsBld B b bs w' := h.elim (fun x => .inl (bld_below x hb)) (fun x => .inr (bld_below x hb))
theorem isbld_new (w : World) : IsBld w.heap.size w.heap.size [] (w.alloc (.cells #[.pointer none, .slice none 0 0] 84)) :=
  .inl ⟨Nat.le_refl _, _, heap_alloc_new w _, ⟨rfl, .inl ⟨rfl, rfl⟩⟩, by simp [Value.ownBlock]⟩
theorem byteCells_app (a b : List UInt8) : Lib.byteCells (a ++ b) = Lib.byteCells a ++ Lib.byteCells b := by
  unfold Lib.byteCells
  rw [List.map_append]
end Go.Proofs.YtminbdcabacfbaaGreatDoor.V

namespace Go.Proofs.YtminbdcabacfbaaGreatDoor.V
set_option linter.unusedVariables false
set_option linter.unusedSimpArgs false
open Go.RowKit

theorem addr_add (g j : Nat) : Addr.add ⟨g, 0, none⟩ j = ⟨g, j, none⟩ := by
  unfold Addr.add
  split <;> simp_all
theorem bs_append (a b : List UInt8) : bs a ++ bs b = bs (a ++ b) := by
  apply ByteArray.ext
  simp [bs, ByteArray.data_append]
theorem bs_size (l : List UInt8) : (bs l).size = l.length := List.size_toArray
end Go.Proofs.YtminbdcabacfbaaGreatDoor.V

namespace Go.Proofs.YtminbdcabacfbaaGreatDoor.V
set_option linter.unusedVariables false
set_option linter.unusedSimpArgs false
open Go.RowKit

/-- Texts that lie one behind the other. -/
def StrsAt (w : World) (A : Option Addr) (L : List ByteArray) : Prop := ∀ (j : Nat) (x : ByteArray), L[j]? = some x → ∃ a, A = some a ∧ w.cell? (a.add j) = some (.string x)
theorem StrsAt.below {w w' : World} {A : Option Addr} {L : List ByteArray} (h : StrsAt w A L) (hb : Below w.heap.size w w') : StrsAt w' A L := by
  intro j x hx
  obtain ⟨a, ha, hc⟩ := h j x hx
  exact ⟨a, ha, cell_below hb hc⟩
def txs (L : List ByteArray) : List (List UInt8) := L.map (·.data.toList)
/-- Each with the separator ahead. -/
def tailT (m : List UInt8) (L : List (List UInt8)) : List UInt8 := L.flatMap fun x => m ++ x
def lenT (L : List (List UInt8)) : Nat := (L.map (·.length)).sum
theorem sepT_cons (m x : List UInt8) (r : List (List UInt8)) : sepT m (x :: r) = x ++ tailT m r := by
  induction r generalizing x with
  | nil => simp [sepT, tailT]
  | cons y r ih =>
    rw [sepT, ih]
    simp [tailT]
theorem sepT_none (r : List (List UInt8)) : sepT [] r = r.flatten := by
  cases r with
  | nil => rfl
  | cons x r => rw [sepT_cons]; simp [tailT, List.flatMap_def]
theorem tailT_length (m : List UInt8) (r : List (List UInt8)) : (tailT m r).length = m.length * r.length + lenT r := by
  induction r with
  | nil => simp [tailT, lenT]
  | cons x r ih =>
    unfold tailT lenT at *
    rw [List.flatMap_cons, List.length_append, List.length_append, ih, List.map_cons, List.sum_cons, List.length_cons, Nat.mul_succ]
    omega
theorem tailT_snoc (m : List UInt8) (L : List (List UInt8)) (k : Nat) (x : List UInt8) (h : L[k]? = some x) : tailT m (L.take (k + 1)) = tailT m (L.take k) ++ (m ++ x) := by
  unfold tailT
  rw [List.take_add_one, List.flatMap_append, h]
  simp
theorem tailT_le (m : List UInt8) (L : List (List UInt8)) (k : Nat) : (tailT m (L.take k)).length ≤ (tailT m L).length := by
  conv => rhs; rw [← List.take_append_drop k L]
  unfold tailT
  rw [List.flatMap_append, List.length_append]
  omega
theorem lenT_snoc (L : List (List UInt8)) (k : Nat) (x : List UInt8) (h : L[k]? = some x) : lenT (L.take (k + 1)) = lenT (L.take k) + x.length := by
  unfold lenT
  rw [List.take_add_one, List.map_append, List.sum_append, h]
  simp
theorem lenT_le (L : List (List UInt8)) (k : Nat) : lenT (L.take k) ≤ lenT L := by
  conv => rhs; rw [← List.take_append_drop k L]
  unfold lenT
  rw [List.map_append, List.sum_append]
  omega
theorem size_data (s : ByteArray) : s.size = s.data.toList.length := by simp

set_option maxRecDepth 100000 in
set_option maxHeartbeats 8000000 in
theorem sjoin_calls (A : Option Addr) (n c : Nat) (L : List ByteArray) (sep : ByteArray) (w : World) (hn : n = L.length) (hT : StrsAt w A L) (hbig : (sepT sep.data.toList (txs L)).length ≤ 140737488355328) (hn2 : n ≤ 140737488355328) (hc : n ≤ c) :
    Calls Tryz.prog 74 #[.slice A n c, .string sep] w fun e w' => e = .returned (.string (bs (sepT sep.data.toList (txs L)))) ∧ Below w.heap.size w w' := by
  rcases L with _ | ⟨x, _ | ⟨x1, r⟩⟩
  · subst hn
    go_enter Tryz.func74, Tryz.ntmps74
    go_wp2_with fail
    go_ret
    exact ⟨rfl, Below.refl _ _⟩
  · subst hn
    obtain ⟨a, rfl, d0⟩ := hT 0 x rfl
    have d1 : w.cell? a = some (.string x) := d0
    go_enter Tryz.func74, Tryz.ntmps74
    go_wp2_with fail
    go_ret
    exact ⟨by rw [show bs (sepT sep.data.toList (txs [x])) = x from of_bytes x]; rfl, Below.refl _ _⟩
  · obtain ⟨R, hR⟩ : ∃ R, x1 :: r = R := ⟨_, rfl⟩
    have hnR : n = R.length + 1 := by rw [hn, ← hR]; simp
    have hRp : 1 ≤ R.length := by rw [← hR]; simp
    rw [hR] at hT hbig ⊢
    clear hR hn
    obtain ⟨a, rfl, d0⟩ := hT 0 x rfl
    have hj := hbig
    rw [txs, List.map_cons, sepT_cons, List.length_append, tailT_length, List.length_map, ← size_data, ← size_data] at hj
    obtain ⟨M, hM⟩ : ∃ M, sep.size * R.length = M := ⟨_, rfl⟩
    rw [hM] at hj
    have hcast : ((n : Int) - 1) = ((R.length : Nat) : Int) := by omega
    have hlt : sep.size + 1 ≤ 9223372036854775807 / R.length := by
      rw [Nat.le_div_iff_mul_le (by omega), Nat.add_mul, hM]
      omega
    have hdv : decide ((9223372036854775807 : Int) / ((n : Int) - 1) ≤ (sep.size : Int)) = false := by
      have e : (9223372036854775807 : Int) / ((R.length : Nat) : Int) = ((9223372036854775807 / R.length : Nat) : Int) := IntWalk.up_div (x := 9223372036854775807) rfl rfl
      rw [hcast, e]
      refine decide_eq_false ?_
      generalize 9223372036854775807 / R.length = q at hlt
      omega
    have hdv2 : ¬ (9223372036854775807 : Int) / ((n : Int) - 1) ≤ (sep.size : Int) := of_decide_eq_false hdv
    have hprod : wrap64 ((sep.size : Int) * ((n : Int) - 1)) = (M : Int) := by
      have e : (sep.size : Int) * ((R.length : Nat) : Int) = ((sep.size * R.length : Nat) : Int) := IntWalk.up_mul rfl rfl
      rw [hcast, e, hM]
      exact IntWalk.wrap64_in _ ⟨by omega, by omega⟩
    have hM0 : sep.size = 0 → M = 0 := fun h => by rw [← hM, h, Nat.zero_mul]
    have hn1 : 2 ≤ n := by omega
    have hne0 : ((n : Int) == 0) = false := beq_eq_false_iff_ne.2 (by omega)
    have hne1 : ((n : Int) == 1) = false := beq_eq_false_iff_ne.2 (by omega)
    have hMb : M ≤ 140737488355328 := by omega
    have HT := Lib.hid hT
    have HBIG := Lib.hid hbig
    have HNR := Lib.hid hnR
    have HM0 := Lib.hid hM0
    have HJ := Lib.hid hj
    clear hlt hcast hT hbig hnR hM hM0 hj
    cases hsd : decide (0 < sep.size)
    all_goals
      have HSD := Lib.hid hsd
      go_enter Tryz.func74, Tryz.ntmps74
      go_wp2_with fail
      go_loop [5, 41] (fun v i => ∃ k : Nat, k ≤ n ∧ i = .int .i64 (k : Int) ∧ v = .int .i64 ((M + lenT ((txs (x :: R)).take k) : Nat) : Int)) (fun _ i => n + 1 - (intOf i).toNat)
      case atStart => exact ⟨0, Nat.zero_le _, rfl, by first | (have h0 := HM0.out (by have := of_decide_eq_false HSD.out; omega); rw [h0]; rfl) | (simp [lenT]; done)⟩
      case round =>
        obtain ⟨k, hk, rfl, rfl⟩ := hrel
        by_cases hlt : k < n
        · have hd : decide ((k : Int) < (n : Int)) = true := decide_eq_true (by omega)
          obtain ⟨y, hx⟩ : ∃ y, (x :: R)[k]? = some y := ⟨_, List.getElem?_eq_getElem (by rw [List.length_cons, ← HNR.out]; exact hlt)⟩
          obtain ⟨a', e, dk⟩ := HT.out k y hx
          cases e
          have hst := lenT_snoc (txs (x :: R)) k y.data.toList (by rw [txs, List.getElem?_map, hx]; rfl)
          have hle := lenT_le (txs (x :: R)) (k + 1)
          have hjj := HJ.out
          have hall : lenT (txs (x :: R)) = x.size + lenT (List.map (fun x => x.data.toList) R) := by unfold txs lenT; rw [List.map_cons, List.map_cons, List.sum_cons, ← size_data]
          obtain ⟨B, hB⟩ : ∃ B, lenT ((txs (x :: R)).take k) = B := ⟨_, rfl⟩
          rw [hB] at hst ⊢
          have HST := Lib.hid (show M + lenT ((txs (x :: R)).take (k + 1)) = M + B + y.size by rw [hst, size_data]; omega)
          have hb1 : M + B + y.size ≤ 140737488355328 := by rw [size_data]; omega
          have hd2 : decide ((9223372036854775807 : Int) - ((M + B : Nat) : Int) < (y.size : Int)) = false := decide_eq_false (by omega)
          clear hst hle hjj hall hB hx
          go_wp2_with fail
          exact ⟨⟨k + 1, hlt, by simp, by rw [HST.out]; simp⟩, by simp [intOf]; omega⟩
        · have hkn : k = n := by omega
          subst hkn
          have hd : decide ((k : Int) < (k : Int)) = false := decide_eq_false (by omega)
          have htk : (txs (x :: R)).take k = txs (x :: R) := List.take_of_length_le (by rw [txs, List.length_map, List.length_cons, ← HNR.out]; exact Nat.le_refl _)
          rw [htk]
          have hjj := HJ.out
          have hall : lenT (txs (x :: R)) = x.size + lenT (List.map (fun x => x.data.toList) R) := by unfold txs lenT; rw [List.map_cons, List.map_cons, List.sum_cons, ← size_data]
          obtain ⟨T, hT⟩ : ∃ T, M + lenT (txs (x :: R)) = T := ⟨_, rfl⟩
          have hTb : T ≤ 140737488355328 := by omega
          have hxb : x.size ≤ 140737488355328 := by omega
          rw [hT]
          have HGR := Lib.hid (Tryz.Builder_Grow_fresh w.heap.size w.heap.size T (w.alloc (.cells #[.pointer none, .slice none 0 0] 84)) (Nat.le_refl _) (heap_alloc_new w _) (by simp) (by omega))
          have hbl0 := (Below.refl w.heap.size w).alloc (Nat.le_refl _) (.cells #[.pointer none, .slice none 0 0] 84)
          have HB0 := Lib.hid hbl0
          have hR0 : 0 < R.length := hRp
          have hnk : (k : Int) - 1 = (R.length : Int) := by have := HNR.out; omega
          have hD0 := Lib.hid (show w.cell? a = some (.string x) from d0)
          clear hd htk hjj hall hT hlt hbl0 d0
          go_wp2_with (first
            | (go_at_call 104; ((with_reducible refine HGR.out.mono ?_); rintro e w1 ⟨rfl, h1, hb1⟩; have H1 := Lib.hid (show IsBld w.heap.size w.heap.size [] w1 from .inr (Lib.BuilderAtF.of h1)); have HB1 := Lib.hid (HB0.out.trans hb1); have e0 := cell_below HB1.out hD0.out; clear h1 hb1))
            | (go_at_call 39; ((with_reducible refine (bwrite_calls _ _ _ _ _ H1.out (by simpa using hxb) HB1.out.size).mono ?_); rintro e w2 ⟨rfl, h2, hb2⟩; rw [List.nil_append, Lib.strCells_eq] at h2; have H2 := Lib.hid h2; have HB2 := Lib.hid (HB1.out.trans hb2); clear h2 hb2 e0)))
          have HC := Lib.hid (show ∀ j, (x.data.toList ++ tailT sep.data.toList ((txs R).take j)).length ≤ 140737488355328 from fun j => by
            have h1 := HBIG.out
            rw [show txs (x :: R) = x.data.toList :: txs R from rfl, sepT_cons, List.length_append] at h1
            have h2 := tailT_le sep.data.toList (txs R) j
            rw [List.length_append]
            omega)
          go_loopw [65] (fun i wr => ∃ j : Nat, j ≤ R.length ∧ i = .int .i64 (j : Int) ∧ IsBld w.heap.size w.heap.size (Lib.byteCells (x.data.toList ++ tailT sep.data.toList ((txs R).take j))) wr ∧ Below w.heap.size w wr) (fun i _ => R.length + 1 - (intOf i).toNat)
          case atStart => exact ⟨0, Nat.zero_le _, rfl, .inr (by simpa [tailT] using H2.out), HB2.out⟩
          case round =>
            obtain ⟨j, hj, rfl, hbld, hb⟩ := hrel
            have HBD := Lib.hid hbld
            have HB := Lib.hid hb
            by_cases hlt : j < R.length
            · have hd : decide ((j : Int) < (R.length : Int)) = true := decide_eq_true (by omega)
              obtain ⟨y, hx⟩ : ∃ y, R[j]? = some y := ⟨_, List.getElem?_eq_getElem hlt⟩
              obtain ⟨a', e, dk⟩ := HT.out (j + 1) y (by simpa using hx)
              cases e
              have dk2 := cell_below hb dk
              have dk3 : wr.cell? ⟨a.block, a.off + 1 + j, none⟩ = some (.string y) := by
                rw [show a.off + 1 + j = a.off + (j + 1) by omega]
                exact dk2
              have hsn := tailT_snoc sep.data.toList (txs R) j y.data.toList (by rw [txs, List.getElem?_map, hx]; rfl)
              have hle := HC.out (j + 1)
              rw [hsn] at hle
              have HSN := Lib.hid (show x.data.toList ++ tailT sep.data.toList ((txs R).take (j + 1)) = x.data.toList ++ tailT sep.data.toList ((txs R).take j) ++ (sep.data.toList ++ y.data.toList) by rw [hsn, List.append_assoc])
              have HL1 := Lib.hid (show (Lib.byteCells (x.data.toList ++ tailT sep.data.toList ((txs R).take j))).length + sep.size ≤ 140737488355328 by
                rw [Lib.byteCells_length, size_data]
                simp only [List.length_append] at hle ⊢
                omega)
              have HL2 := Lib.hid (show (Lib.byteCells (x.data.toList ++ tailT sep.data.toList ((txs R).take j)) ++ Lib.strCells sep).length + y.size ≤ 140737488355328 by
                rw [List.length_append, Lib.byteCells_length, Lib.strCells_length, size_data, size_data]
                simp only [List.length_append] at hle ⊢
                omega)
              clear hbld hb hsn hle hx
              go_wp2_with (first
                | (go_at_call 39; ((with_reducible refine (bwrite_calls _ _ _ sep _ HBD.out HL1.out HB.out.size).mono ?_); rintro e w3 ⟨rfl, h3, hb3⟩; have H3 := Lib.hid (show IsBld w.heap.size w.heap.size _ w3 from Or.inr h3); have HB3 := Lib.hid (HB.out.trans hb3); clear h3 hb3))
                | (go_at_call 39; ((with_reducible refine (bwrite_calls _ _ _ y _ H3.out HL2.out HB3.out.size).mono ?_); rintro e w4 ⟨rfl, h4, hb4⟩; rw [Lib.strCells_eq, Lib.strCells_eq, List.append_assoc, ← byteCells_app, ← byteCells_app, ← HSN.out] at h4; have H4 := Lib.hid h4; have HB4 := Lib.hid (HB3.out.trans hb4); clear h4 hb4)))
              go_roundw
              case rel => exact ⟨j + 1, hlt, by simp, .inr H4.out, HB4.out⟩
              case measure => simp [intOf]; omega
            · have hkn : j = R.length := by omega
              subst hkn
              have hd : decide ((R.length : Int) < (R.length : Int)) = false := decide_eq_false (by omega)
              have htk : (txs R).take R.length = txs R := List.take_of_length_le (by rw [txs, List.length_map]; exact Nat.le_refl _)
              rw [htk, ← sepT_cons] at hbld
              have HBD := Lib.hid hbld
              clear hb hlt hj hbld htk
              go_wp2_with (go_at_call 42; ((with_reducible refine (Tryz.Builder_String_any_k _ _ _ _ HBD.out HB.out.size).mono ?_); rintro e w5 ⟨rfl, _, hb5, _⟩; have HB5 := Lib.hid (HB.out.trans hb5); clear hb5))
              go_ret
              exact ⟨rfl, HB5.out⟩
end Go.Proofs.YtminbdcabacfbaaGreatDoor.V

namespace Go.Proofs.YtminbdcabacfbaaGreatDoor.V
set_option linter.unusedVariables false
set_option linter.unusedSimpArgs false
open Go.RowKit

structure TermHere (w : World) (a : Addr) (t : TermL) : Prop where
  c0 : w.cell? a = some (.bool t.v)
  c1 : w.cell? ⟨a.block, a.off + 1, none⟩ = some (.string (bs t.x))
  c2 : w.cell? ⟨a.block, a.off + 2, none⟩ = some (.bool t.s)
  c3 : w.cell? ⟨a.block, a.off + 3, none⟩ = some (.string (bs t.t))
  c4 : w.cell? ⟨a.block, a.off + 4, none⟩ = some (.int .i64 t.n)
theorem TermHere.below {w w' : World} {a : Addr} {t : TermL} (h : TermHere w a t) (hb : Below w.heap.size w w') : TermHere w' a t :=
  ⟨cell_below hb h.c0, cell_below hb h.c1, cell_below hb h.c2, cell_below hb h.c3, cell_below hb h.c4⟩
def TermsRd (w : World) (A : Option Addr) (L : List TermL) : Prop := ∀ (j : Nat) (t : TermL), L[j]? = some t → ∃ a, A = some a ∧ TermHere w (a.add (j * 5)) t
theorem TermsRd.below {w w' : World} {A : Option Addr} {L : List TermL} (h : TermsRd w A L) (hb : Below w.heap.size w w') : TermsRd w' A L := fun j t hj => by
  obtain ⟨a, h1, h2⟩ := h j t hj
  exact ⟨a, h1, h2.below hb⟩
/-- An atom that lies at an address. -/
def AtomHere (w : World) (a : Addr) (x : AtomL) : Prop := ∃ A n c, n = x.a.length ∧ n ≤ c ∧ w.cell? a = some (.string (bs x.p)) ∧ w.cell? ⟨a.block, a.off + 1, none⟩ = some (.slice A n c) ∧ TermsRd w A x.a
theorem AtomHere.below {w w' : World} {a : Addr} {x : AtomL} (h : AtomHere w a x) (hb : Below w.heap.size w w') : AtomHere w' a x := by
  obtain ⟨A, n, c, h1, h2, h3, h4, h5⟩ := h
  exact ⟨A, n, c, h1, h2, cell_below hb h3, cell_below hb h4, h5.below hb⟩
structure LitHere (w : World) (a : Addr) (l : LitL) : Prop where
  c0 : ∃ k : Int, w.cell? a = some (.int .i64 k) ∧ k.toNat = l.k
  c1 : AtomHere w ⟨a.block, a.off + 1, none⟩ l.a
  c3 : w.cell? ⟨a.block, a.off + 3, none⟩ = some (.string (bs l.o))
  c4 : TermHere w ⟨a.block, a.off + 4, none⟩ l.l
  c9 : TermHere w ⟨a.block, a.off + 9, none⟩ l.r
theorem LitHere.below {w w' : World} {a : Addr} {l : LitL} (h : LitHere w a l) (hb : Below w.heap.size w w') : LitHere w' a l := by
  obtain ⟨k, h0, hk⟩ := h.c0
  exact ⟨⟨k, cell_below hb h0, hk⟩, h.c1.below hb, cell_below hb h.c3, h.c4.below hb, h.c9.below hb⟩
def LitsRd (w : World) (A : Option Addr) (L : List LitL) : Prop := ∀ (j : Nat) (t : LitL), L[j]? = some t → ∃ a, A = some a ∧ LitHere w (a.add (j * 14)) t
theorem LitsRd.below {w w' : World} {A : Option Addr} {L : List LitL} (h : LitsRd w A L) (hb : Below w.heap.size w w') : LitsRd w' A L := fun j t hj => by
  obtain ⟨a, h1, h2⟩ := h j t hj
  exact ⟨a, h1, h2.below hb⟩
def RuleHere (w : World) (a : Addr) (x : RuleL) : Prop := AtomHere w a x.h ∧ ∃ A n c, n = x.b.length ∧ n ≤ c ∧ w.cell? ⟨a.block, a.off + 2, none⟩ = some (.slice A n c) ∧ LitsRd w A x.b
theorem RuleHere.below {w w' : World} {a : Addr} {x : RuleL} (h : RuleHere w a x) (hb : Below w.heap.size w w') : RuleHere w' a x := by
  obtain ⟨h0, A, n, c, h1, h2, h3, h5⟩ := h
  exact ⟨h0.below hb, A, n, c, h1, h2, cell_below hb h3, h5.below hb⟩
def RulesRd (w : World) (A : Option Addr) (L : List RuleL) : Prop := ∀ (j : Nat) (t : RuleL), L[j]? = some t → ∃ a, A = some a ∧ RuleHere w (a.add (j * 3)) t
theorem RulesRd.below {w w' : World} {A : Option Addr} {L : List RuleL} (h : RulesRd w A L) (hb : Below w.heap.size w w') : RulesRd w' A L := fun j t hj => by
  obtain ⟨a, h1, h2⟩ := h j t hj
  exact ⟨a, h1, h2.below hb⟩
structure DeclHere (w : World) (a : Addr) (t : DeclL) : Prop where
  c0 : w.cell? a = some (.string (bs t.p))
  c1 : w.cell? ⟨a.block, a.off + 1, none⟩ = some (.int .i64 t.n)
theorem DeclHere.below {w w' : World} {a : Addr} {t : DeclL} (h : DeclHere w a t) (hb : Below w.heap.size w w') : DeclHere w' a t := ⟨cell_below hb h.c0, cell_below hb h.c1⟩
def DeclsRd (w : World) (A : Option Addr) (L : List DeclL) : Prop := ∀ (j : Nat) (t : DeclL), L[j]? = some t → ∃ a, A = some a ∧ DeclHere w (a.add (j * 2)) t
theorem DeclsRd.below {w w' : World} {A : Option Addr} {L : List DeclL} (h : DeclsRd w A L) (hb : Below w.heap.size w w') : DeclsRd w' A L := fun j t hj => by
  obtain ⟨a, h1, h2⟩ := h j t hj
  exact ⟨a, h1, h2.below hb⟩

/-- Terms whose parts are not too great. -/
def TermOk (t : TermL) : Prop := t.t.length ≤ 1099511627776 ∧ -9223372036854775808 ≤ t.n ∧ t.n ≤ 9223372036854775807
def AtomOk (a : AtomL) : Prop := a.a.length < 1000000000 ∧ ∀ t ∈ a.a, TermOk t
def LitOk' (l : LitL) : Prop := AtomOk l.a ∧ TermOk l.l ∧ TermOk l.r
def RuleOk' (r : RuleL) : Prop := AtomOk r.h ∧ r.b.length < 1000000000 ∧ ∀ l ∈ r.b, LitOk' l
def termPV (t : TermL) : Value := .agg #[.bool t.v, .string (bs t.x), .bool t.s, .string (bs t.t), .int .i64 t.n]
/-- Strings as they lie in cells. -/
def strV (L : List (List UInt8)) : List Value := L.map fun x => .string (bs x)
theorem str_info : (Tryz.prog.info? 9).map (fun i => (i.zero, i.size, i.bytes)) = some (some (.string ⟨#[]⟩), 1, 16) := by kernel_rfl
theorem strs_own {W : World} {B e n c : Nat} {A : Option Addr} {L : List (List UInt8)} (h : W.ownsRow B e 1 (.slice A n c) n (strV L)) (hn : n = L.length) : StrsAt W A (L.map bs) := by
  intro j x hx
  rw [List.getElem?_map, Option.map_eq_some_iff] at hx
  obtain ⟨p, hp, rfl⟩ := hx
  have hlt := (List.getElem?_eq_some_iff.1 hp).1
  obtain ⟨g, rfl, hc⟩ := o_at h (by omega)
  refine ⟨_, rfl, ?_⟩
  rw [addr_add]
  exact hc j _ (by rw [strV, List.getElem?_map, hp]; rfl)
theorem own_cap {W : World} {B e z n c : Nat} {A : Option Addr} {xs : List Value} (h : W.ownsRow B e z (.slice A n c) n xs) : n ≤ c := by
  rcases h.2 with ⟨h1, _⟩ | ⟨g, cap, cur, hv, _, _, hnc, _⟩
  · injection h1 with _ h2 h3
    omega
  · injection hv with _ _ h3
    omega
theorem txs_bs (L : List (List UInt8)) : txs (L.map bs) = L := by
  unfold txs
  rw [List.map_map]
  exact List.map_id'' (fun x => rfl) L
theorem bs_data (l : List UInt8) : (bs l).data.toList = l := rfl
set_option maxRecDepth 100000 in
set_option maxHeartbeats 4000000 in
theorem prTerm_calls (t : TermL) (w : World) (hok : TermOk t) (hw : TabW w) :
    Calls Tryz.prog 24 #[termPV t] w fun e w' => e = .returned (.string (bs (termT t))) ∧ Below w.heap.size w w' := by
  obtain ⟨v, x, s, y, n⟩ := t
  show Calls Tryz.prog 24 #[.agg #[.bool v, .string (bs x), .bool s, .string (bs y), .int .i64 n]] w _
  have hbl := (Below.refl w.heap.size w).alloc (Nat.le_refl _) (.cells #[.bool v, .string (bs x), .bool s, .string (bs y), .int .i64 n] 45)
  have HB := Lib.hid hbl
  have HW := Lib.hid (hw.below hbl)
  have HOK := Lib.hid (show (bs y).size ≤ 1099511627776 ∧ -9223372036854775808 ≤ n ∧ n ≤ 9223372036854775807 by rw [bs_size]; exact hok)
  clear hbl hw hok
  cases v with
  | true =>
    go_enter Tryz.func24, Tryz.ntmps24
    go_wp2_with fail
    go_ret
    exact ⟨rfl, HB.out⟩
  | false =>
    go_enter Tryz.func24, Tryz.ntmps24
    go_wp2_with (go_at_call 54; ((with_reducible refine (text_calls s (bs y) n _ HOK.out.1 HOK.out.2.1 HOK.out.2.2 HW.out).mono ?_); rintro e w2 ⟨rfl, hb⟩; have HB2 := Lib.hid (HB.out.trans (hb.mono HB.out.size)); clear hb))
    go_ret
    exact ⟨rfl, HB2.out⟩
end Go.Proofs.YtminbdcabacfbaaGreatDoor.V

namespace Go.Proofs.YtminbdcabacfbaaGreatDoor.V
set_option linter.unusedVariables false
open Go.RowKit
set_option linter.unusedSimpArgs false

/-- Which of two texts is ahead; of two numbers. -/
def cmpS (a b : List UInt8) : Int := if Op.bytesLess a b = true then -1 else if a = b then 0 else 1
def cmpN (a b : Int) : Int := if a < b then -1 else if b < a then 1 else 0

theorem cmpInt_calls (a b : Int) (w : World) : Calls Tryz.prog 166 #[.int .i64 a, .int .i64 b] w fun e w' => e = .returned (.int .i64 (cmpN a b)) ∧ w = w' := by
  unfold cmpN
  by_cases h1 : a < b
  · have h1d : decide (a < b) = true := decide_eq_true h1
    go_enter Tryz.func166, Tryz.ntmps166
    go_wp2
    go_ret
    exact ⟨by simp [h1], rfl⟩
  · have h1d : decide (a < b) = false := decide_eq_false h1
    by_cases h2 : b < a
    · have h2d : decide (b < a) = true := decide_eq_true h2
      go_enter Tryz.func166, Tryz.ntmps166
      go_wp2
      go_ret
      exact ⟨by simp [h1, h2], rfl⟩
    · have h2d : decide (b < a) = false := decide_eq_false h2
      go_enter Tryz.func166, Tryz.ntmps166
      go_wp2
      go_ret
      exact ⟨by simp [h1, h2], rfl⟩

theorem cmpStr_calls (a b : ByteArray) (w : World) : Calls Tryz.prog 165 #[.string a, .string b] w fun e w' => e = .returned (.int .i64 (cmpS a.toList b.toList)) ∧ w = w' := by
  unfold cmpS
  cases h1 : Op.bytesLess a.toList b.toList with
  | true =>
    go_enter Tryz.func165, Tryz.ntmps165
    go_wp2
    go_ret
    exact ⟨by simp, rfl⟩
  | false =>
    by_cases h2 : a.toList = b.toList
    · have h2d : (a.toList == b.toList) = true := beq_iff_eq.2 h2
      have H2 := Lib.hid h2
      clear h2
      go_enter Tryz.func165, Tryz.ntmps165
      go_wp2
      go_ret
      exact ⟨by simp [H2.out], rfl⟩
    · have h2d : (a.toList == b.toList) = false := beq_eq_false_iff_ne.2 h2
      go_enter Tryz.func165, Tryz.ntmps165
      go_wp2
      go_ret
      exact ⟨by simp [h2], rfl⟩

/-- Which of two values is ahead. -/
def cmpV (s : Bool) (t : List UInt8) (n : Int) (s' : Bool) (t' : List UInt8) (n' : Int) : Int := match s, s' with
  | true, true => cmpS t t'
  | true, false => 1
  | false, true => -1
  | false, false => cmpN n n'
theorem compare_calls (s : Bool) (t : ByteArray) (n : Int) (s' : Bool) (t' : ByteArray) (n' : Int) (w : World) :
    Calls Tryz.prog 141 #[.agg #[.bool s, .string t, .int .i64 n], .agg #[.bool s', .string t', .int .i64 n']] w fun e w' => e = .returned (.int .i64 (cmpV s t.toList n s' t'.toList n')) ∧ Below w.heap.size w w' := by
  have hb : ∀ o p : Obj, Below w.heap.size w ((w.alloc o).alloc p) := fun o p => ((Below.refl _ _).alloc (Nat.le_refl _) o).alloc (by simp) p
  cases s <;> cases s'
  all_goals
    go_enter Tryz.func141, Tryz.ntmps141
    go_wp2_with (first | (go_at_call 165; refine (cmpStr_calls _ _ _).mono ?_; rintro e w' ⟨rfl, rfl⟩) | (go_at_call 166; refine (cmpInt_calls _ _ _).mono ?_; rintro e w' ⟨rfl, rfl⟩))
    go_ret
    exact ⟨rfl, hb _ _⟩
end Go.Proofs.YtminbdcabacfbaaGreatDoor.V

namespace Go.Proofs.YtminbdcabacfbaaGreatDoor.V
set_option linter.unusedVariables false
set_option linter.unusedSimpArgs false
open Go.RowKit

theorem run_store_func {P : Program} {w : World} {a : Addr} {m : Mode} (f : Fn) (x y : Array Value) : (store a (.func f x y) m).run P w = stored P w a (.func f x y) m := run_store P w a _ m rfl
theorem holds1_calls (c : Int) (w : World) : Calls Tryz.prog 142 #[.int .i64 c] w fun e w' => e = .returned (.bool (c == 0)) ∧ w = w' := by
  go_enter Tryz.func142, Tryz.ntmps142
  go_wp2_with fail
  go_ret
  exact ⟨rfl, rfl⟩
theorem holds2_calls (c : Int) (w : World) : Calls Tryz.prog 143 #[.int .i64 c] w fun e w' => e = .returned (.bool (c != 0)) ∧ w = w' := by
  go_enter Tryz.func143, Tryz.ntmps143
  go_wp2_with fail
  go_ret
  exact ⟨rfl, rfl⟩
theorem holds3_calls (c : Int) (w : World) : Calls Tryz.prog 144 #[.int .i64 c] w fun e w' => e = .returned (.bool (decide (c < 0))) ∧ w = w' := by
  go_enter Tryz.func144, Tryz.ntmps144
  go_wp2_with fail
  go_ret
  exact ⟨rfl, rfl⟩
theorem holds4_calls (c : Int) (w : World) : Calls Tryz.prog 145 #[.int .i64 c] w fun e w' => e = .returned (.bool (decide (c ≤ 0))) ∧ w = w' := by
  go_enter Tryz.func145, Tryz.ntmps145
  go_wp2_with fail
  go_ret
  exact ⟨rfl, rfl⟩
theorem holds5_calls (c : Int) (w : World) : Calls Tryz.prog 146 #[.int .i64 c] w fun e w' => e = .returned (.bool (decide (c > 0))) ∧ w = w' := by
  go_enter Tryz.func146, Tryz.ntmps146
  go_wp2_with fail
  go_ret
  exact ⟨rfl, rfl⟩
theorem holds6_calls (c : Int) (w : World) : Calls Tryz.prog 147 #[.int .i64 c] w fun e w' => e = .returned (.bool (decide (c ≥ 0))) ∧ w = w' := by
  go_enter Tryz.func147, Tryz.ntmps147
  go_wp2_with fail
  go_ret
  exact ⟨rfl, rfl⟩

set_option maxRecDepth 100000 in
set_option maxHeartbeats 8000000 in
theorem holds_at0 (o : ByteArray) (h0 : (([61] : List UInt8) == o.toList) = true) (s : Bool) (t : ByteArray) (n : Int) (s' : Bool) (t' : ByteArray) (n' : Int) (w : World) (c : Int) (hC : cmpV s t.toList n s' t'.toList n' = c) :
    Calls Tryz.prog 114 #[.string o, .agg #[.bool s, .string t, .int .i64 n], .agg #[.bool s', .string t', .int .i64 n']] w fun e w' => e = .returned (.tuple #[.bool (c == 0), .bool true]) ∧ Below w.heap.size w w' := by
  have HB := Lib.hid (((Below.refl w.heap.size w).alloc (Nat.le_refl _) (.cells #[.bool s, .string t, .int .i64 n] 43)).alloc (by simp) (.cells #[.bool s', .string t', .int .i64 n'] 43))
  have EC := Lib.hid hC
  have hsf : ∀ (W : World) (a : Addr) (f : Fn) (x y : Array Value), (store a (.func f x y)).run Tryz.prog W = stored Tryz.prog W a (.func f x y) .plain := fun W a f x y => run_store_func f x y
  clear hC
  go_enter Tryz.func114, Tryz.ntmps114
  go_wp2_with fail
  refine (compare_calls _ _ _ _ _ _ _).mono ?_
  rintro e w2 ⟨rfl, hb⟩
  have hb2 := below_then HB.out hb HB.out.size
  have hz := hb2.size
  rw [EC.out]
  clear hb HB
  go_wp2_with fail
  refine wp_loop_rounds 1 ?_
  rw [rounds_succ]
  go_wp2_with fail
  refine (holds1_calls _ _).mono ?_
  rintro e w3 ⟨rfl, rfl⟩
  go_wp2_with fail
  refine bodyPost_ret (v := .tuple #[.bool (c == 0), .bool true]) (by simp [results, Tryz.results114, go_sem]) rfl ⟨rfl, ?_⟩
  (repeat (first | with_reducible assumption | with_reducible exact Below.refl _ _ | with_reducible apply Below.drew | (with_reducible refine Below.alloc ?_ ?_ _; rotate_left; focus ((first | omega | (simp <;> omega)); done))))

set_option maxRecDepth 100000 in
set_option maxHeartbeats 8000000 in
theorem holds_at1 (o : ByteArray) (h0 : (([61] : List UInt8) == o.toList) = false) (h1 : (([33, 61] : List UInt8) == o.toList) = true) (s : Bool) (t : ByteArray) (n : Int) (s' : Bool) (t' : ByteArray) (n' : Int) (w : World) (c : Int) (hC : cmpV s t.toList n s' t'.toList n' = c) :
    Calls Tryz.prog 114 #[.string o, .agg #[.bool s, .string t, .int .i64 n], .agg #[.bool s', .string t', .int .i64 n']] w fun e w' => e = .returned (.tuple #[.bool (c != 0), .bool true]) ∧ Below w.heap.size w w' := by
  have HB := Lib.hid (((Below.refl w.heap.size w).alloc (Nat.le_refl _) (.cells #[.bool s, .string t, .int .i64 n] 43)).alloc (by simp) (.cells #[.bool s', .string t', .int .i64 n'] 43))
  have EC := Lib.hid hC
  have hsf : ∀ (W : World) (a : Addr) (f : Fn) (x y : Array Value), (store a (.func f x y)).run Tryz.prog W = stored Tryz.prog W a (.func f x y) .plain := fun W a f x y => run_store_func f x y
  clear hC
  go_enter Tryz.func114, Tryz.ntmps114
  go_wp2_with fail
  refine (compare_calls _ _ _ _ _ _ _).mono ?_
  rintro e w2 ⟨rfl, hb⟩
  have hb2 := below_then HB.out hb HB.out.size
  have hz := hb2.size
  rw [EC.out]
  clear hb HB
  go_wp2_with fail
  refine wp_loop_rounds 2 ?_
  rw [rounds_succ]
  go_wp2_with fail
  rw [rounds_succ]
  go_wp2_with fail
  refine (holds2_calls _ _).mono ?_
  rintro e w3 ⟨rfl, rfl⟩
  go_wp2_with fail
  refine bodyPost_ret (v := .tuple #[.bool (c != 0), .bool true]) (by simp [results, Tryz.results114, go_sem]) rfl ⟨rfl, ?_⟩
  (repeat (first | with_reducible assumption | with_reducible exact Below.refl _ _ | with_reducible apply Below.drew | (with_reducible refine Below.alloc ?_ ?_ _; rotate_left; focus ((first | omega | (simp <;> omega)); done))))

set_option maxRecDepth 100000 in
set_option maxHeartbeats 8000000 in
theorem holds_at2 (o : ByteArray) (h0 : (([61] : List UInt8) == o.toList) = false) (h1 : (([33, 61] : List UInt8) == o.toList) = false) (h2 : (([60] : List UInt8) == o.toList) = true) (s : Bool) (t : ByteArray) (n : Int) (s' : Bool) (t' : ByteArray) (n' : Int) (w : World) (c : Int) (hC : cmpV s t.toList n s' t'.toList n' = c) :
    Calls Tryz.prog 114 #[.string o, .agg #[.bool s, .string t, .int .i64 n], .agg #[.bool s', .string t', .int .i64 n']] w fun e w' => e = .returned (.tuple #[.bool (decide (c < 0)), .bool true]) ∧ Below w.heap.size w w' := by
  have HB := Lib.hid (((Below.refl w.heap.size w).alloc (Nat.le_refl _) (.cells #[.bool s, .string t, .int .i64 n] 43)).alloc (by simp) (.cells #[.bool s', .string t', .int .i64 n'] 43))
  have EC := Lib.hid hC
  have hsf : ∀ (W : World) (a : Addr) (f : Fn) (x y : Array Value), (store a (.func f x y)).run Tryz.prog W = stored Tryz.prog W a (.func f x y) .plain := fun W a f x y => run_store_func f x y
  clear hC
  go_enter Tryz.func114, Tryz.ntmps114
  go_wp2_with fail
  refine (compare_calls _ _ _ _ _ _ _).mono ?_
  rintro e w2 ⟨rfl, hb⟩
  have hb2 := below_then HB.out hb HB.out.size
  have hz := hb2.size
  rw [EC.out]
  clear hb HB
  go_wp2_with fail
  refine wp_loop_rounds 3 ?_
  rw [rounds_succ]
  go_wp2_with fail
  rw [rounds_succ]
  go_wp2_with fail
  rw [rounds_succ]
  go_wp2_with fail
  refine (holds3_calls _ _).mono ?_
  rintro e w3 ⟨rfl, rfl⟩
  go_wp2_with fail
  refine bodyPost_ret (v := .tuple #[.bool (decide (c < 0)), .bool true]) (by simp [results, Tryz.results114, go_sem]) rfl ⟨rfl, ?_⟩
  (repeat (first | with_reducible assumption | with_reducible exact Below.refl _ _ | with_reducible apply Below.drew | (with_reducible refine Below.alloc ?_ ?_ _; rotate_left; focus ((first | omega | (simp <;> omega)); done))))

set_option maxRecDepth 100000 in
set_option maxHeartbeats 8000000 in
theorem holds_at3 (o : ByteArray) (h0 : (([61] : List UInt8) == o.toList) = false) (h1 : (([33, 61] : List UInt8) == o.toList) = false) (h2 : (([60] : List UInt8) == o.toList) = false) (h3 : (([60, 61] : List UInt8) == o.toList) = true) (s : Bool) (t : ByteArray) (n : Int) (s' : Bool) (t' : ByteArray) (n' : Int) (w : World) (c : Int) (hC : cmpV s t.toList n s' t'.toList n' = c) :
    Calls Tryz.prog 114 #[.string o, .agg #[.bool s, .string t, .int .i64 n], .agg #[.bool s', .string t', .int .i64 n']] w fun e w' => e = .returned (.tuple #[.bool (decide (c ≤ 0)), .bool true]) ∧ Below w.heap.size w w' := by
  have HB := Lib.hid (((Below.refl w.heap.size w).alloc (Nat.le_refl _) (.cells #[.bool s, .string t, .int .i64 n] 43)).alloc (by simp) (.cells #[.bool s', .string t', .int .i64 n'] 43))
  have EC := Lib.hid hC
  have hsf : ∀ (W : World) (a : Addr) (f : Fn) (x y : Array Value), (store a (.func f x y)).run Tryz.prog W = stored Tryz.prog W a (.func f x y) .plain := fun W a f x y => run_store_func f x y
  clear hC
  go_enter Tryz.func114, Tryz.ntmps114
  go_wp2_with fail
  refine (compare_calls _ _ _ _ _ _ _).mono ?_
  rintro e w2 ⟨rfl, hb⟩
  have hb2 := below_then HB.out hb HB.out.size
  have hz := hb2.size
  rw [EC.out]
  clear hb HB
  go_wp2_with fail
  refine wp_loop_rounds 4 ?_
  rw [rounds_succ]
  go_wp2_with fail
  rw [rounds_succ]
  go_wp2_with fail
  rw [rounds_succ]
  go_wp2_with fail
  rw [rounds_succ]
  go_wp2_with fail
  refine (holds4_calls _ _).mono ?_
  rintro e w3 ⟨rfl, rfl⟩
  go_wp2_with fail
  refine bodyPost_ret (v := .tuple #[.bool (decide (c ≤ 0)), .bool true]) (by simp [results, Tryz.results114, go_sem]) rfl ⟨rfl, ?_⟩
  (repeat (first | with_reducible assumption | with_reducible exact Below.refl _ _ | with_reducible apply Below.drew | (with_reducible refine Below.alloc ?_ ?_ _; rotate_left; focus ((first | omega | (simp <;> omega)); done))))

set_option maxRecDepth 100000 in
set_option maxHeartbeats 8000000 in
theorem holds_at4 (o : ByteArray) (h0 : (([61] : List UInt8) == o.toList) = false) (h1 : (([33, 61] : List UInt8) == o.toList) = false) (h2 : (([60] : List UInt8) == o.toList) = false) (h3 : (([60, 61] : List UInt8) == o.toList) = false) (h4 : (([62] : List UInt8) == o.toList) = true) (s : Bool) (t : ByteArray) (n : Int) (s' : Bool) (t' : ByteArray) (n' : Int) (w : World) (c : Int) (hC : cmpV s t.toList n s' t'.toList n' = c) :
    Calls Tryz.prog 114 #[.string o, .agg #[.bool s, .string t, .int .i64 n], .agg #[.bool s', .string t', .int .i64 n']] w fun e w' => e = .returned (.tuple #[.bool (decide (c > 0)), .bool true]) ∧ Below w.heap.size w w' := by
  have HB := Lib.hid (((Below.refl w.heap.size w).alloc (Nat.le_refl _) (.cells #[.bool s, .string t, .int .i64 n] 43)).alloc (by simp) (.cells #[.bool s', .string t', .int .i64 n'] 43))
  have EC := Lib.hid hC
  have hsf : ∀ (W : World) (a : Addr) (f : Fn) (x y : Array Value), (store a (.func f x y)).run Tryz.prog W = stored Tryz.prog W a (.func f x y) .plain := fun W a f x y => run_store_func f x y
  clear hC
  go_enter Tryz.func114, Tryz.ntmps114
  go_wp2_with fail
  refine (compare_calls _ _ _ _ _ _ _).mono ?_
  rintro e w2 ⟨rfl, hb⟩
  have hb2 := below_then HB.out hb HB.out.size
  have hz := hb2.size
  rw [EC.out]
  clear hb HB
  go_wp2_with fail
  refine wp_loop_rounds 5 ?_
  rw [rounds_succ]
  go_wp2_with fail
  rw [rounds_succ]
  go_wp2_with fail
  rw [rounds_succ]
  go_wp2_with fail
  rw [rounds_succ]
  go_wp2_with fail
  rw [rounds_succ]
  go_wp2_with fail
  refine (holds5_calls _ _).mono ?_
  rintro e w3 ⟨rfl, rfl⟩
  go_wp2_with fail
  refine bodyPost_ret (v := .tuple #[.bool (decide (c > 0)), .bool true]) (by simp [results, Tryz.results114, go_sem]) rfl ⟨rfl, ?_⟩
  (repeat (first | with_reducible assumption | with_reducible exact Below.refl _ _ | with_reducible apply Below.drew | (with_reducible refine Below.alloc ?_ ?_ _; rotate_left; focus ((first | omega | (simp <;> omega)); done))))

set_option maxRecDepth 100000 in
set_option maxHeartbeats 8000000 in
theorem holds_at5 (o : ByteArray) (h0 : (([61] : List UInt8) == o.toList) = false) (h1 : (([33, 61] : List UInt8) == o.toList) = false) (h2 : (([60] : List UInt8) == o.toList) = false) (h3 : (([60, 61] : List UInt8) == o.toList) = false) (h4 : (([62] : List UInt8) == o.toList) = false) (h5 : (([62, 61] : List UInt8) == o.toList) = true) (s : Bool) (t : ByteArray) (n : Int) (s' : Bool) (t' : ByteArray) (n' : Int) (w : World) (c : Int) (hC : cmpV s t.toList n s' t'.toList n' = c) :
    Calls Tryz.prog 114 #[.string o, .agg #[.bool s, .string t, .int .i64 n], .agg #[.bool s', .string t', .int .i64 n']] w fun e w' => e = .returned (.tuple #[.bool (decide (c ≥ 0)), .bool true]) ∧ Below w.heap.size w w' := by
  have HB := Lib.hid (((Below.refl w.heap.size w).alloc (Nat.le_refl _) (.cells #[.bool s, .string t, .int .i64 n] 43)).alloc (by simp) (.cells #[.bool s', .string t', .int .i64 n'] 43))
  have EC := Lib.hid hC
  have hsf : ∀ (W : World) (a : Addr) (f : Fn) (x y : Array Value), (store a (.func f x y)).run Tryz.prog W = stored Tryz.prog W a (.func f x y) .plain := fun W a f x y => run_store_func f x y
  clear hC
  go_enter Tryz.func114, Tryz.ntmps114
  go_wp2_with fail
  refine (compare_calls _ _ _ _ _ _ _).mono ?_
  rintro e w2 ⟨rfl, hb⟩
  have hb2 := below_then HB.out hb HB.out.size
  have hz := hb2.size
  rw [EC.out]
  clear hb HB
  go_wp2_with fail
  refine wp_loop_rounds 6 ?_
  rw [rounds_succ]
  go_wp2_with fail
  rw [rounds_succ]
  go_wp2_with fail
  rw [rounds_succ]
  go_wp2_with fail
  rw [rounds_succ]
  go_wp2_with fail
  rw [rounds_succ]
  go_wp2_with fail
  rw [rounds_succ]
  go_wp2_with fail
  refine (holds6_calls _ _).mono ?_
  rintro e w3 ⟨rfl, rfl⟩
  go_wp2_with fail
  refine bodyPost_ret (v := .tuple #[.bool (decide (c ≥ 0)), .bool true]) (by simp [results, Tryz.results114, go_sem]) rfl ⟨rfl, ?_⟩
  (repeat (first | with_reducible assumption | with_reducible exact Below.refl _ _ | with_reducible apply Below.drew | (with_reducible refine Below.alloc ?_ ?_ _; rotate_left; focus ((first | omega | (simp <;> omega)); done))))

set_option maxRecDepth 100000 in
set_option maxHeartbeats 8000000 in
theorem holds_at6 (o : ByteArray) (h0 : (([61] : List UInt8) == o.toList) = false) (h1 : (([33, 61] : List UInt8) == o.toList) = false) (h2 : (([60] : List UInt8) == o.toList) = false) (h3 : (([60, 61] : List UInt8) == o.toList) = false) (h4 : (([62] : List UInt8) == o.toList) = false) (h5 : (([62, 61] : List UInt8) == o.toList) = false) (s : Bool) (t : ByteArray) (n : Int) (s' : Bool) (t' : ByteArray) (n' : Int) (w : World) (c : Int) (hC : cmpV s t.toList n s' t'.toList n' = c) :
    Calls Tryz.prog 114 #[.string o, .agg #[.bool s, .string t, .int .i64 n], .agg #[.bool s', .string t', .int .i64 n']] w fun e w' => e = .returned (.tuple #[.bool false, .bool false]) ∧ Below w.heap.size w w' := by
  have HB := Lib.hid (((Below.refl w.heap.size w).alloc (Nat.le_refl _) (.cells #[.bool s, .string t, .int .i64 n] 43)).alloc (by simp) (.cells #[.bool s', .string t', .int .i64 n'] 43))
  have EC := Lib.hid hC
  have hsf : ∀ (W : World) (a : Addr) (f : Fn) (x y : Array Value), (store a (.func f x y)).run Tryz.prog W = stored Tryz.prog W a (.func f x y) .plain := fun W a f x y => run_store_func f x y
  clear hC
  go_enter Tryz.func114, Tryz.ntmps114
  go_wp2_with fail
  refine (compare_calls _ _ _ _ _ _ _).mono ?_
  rintro e w2 ⟨rfl, hb⟩
  have hb2 := below_then HB.out hb HB.out.size
  have hz := hb2.size
  rw [EC.out]
  clear hb HB
  go_wp2_with fail
  refine wp_loop_rounds 7 ?_
  rw [rounds_succ]
  go_wp2_with fail
  rw [rounds_succ]
  go_wp2_with fail
  rw [rounds_succ]
  go_wp2_with fail
  rw [rounds_succ]
  go_wp2_with fail
  rw [rounds_succ]
  go_wp2_with fail
  rw [rounds_succ]
  go_wp2_with fail
  rw [rounds_succ]
  go_wp2_with fail
  refine bodyPost_ret (v := .tuple #[.bool false, .bool false]) (by simp [results, Tryz.results114, go_sem]) rfl ⟨rfl, ?_⟩
  (repeat (first | with_reducible assumption | with_reducible exact Below.refl _ _ | with_reducible apply Below.drew | (with_reducible refine Below.alloc ?_ ?_ _; rotate_left; focus ((first | omega | (simp <;> omega)); done))))
end Go.Proofs.YtminbdcabacfbaaGreatDoor.V

namespace Go.Proofs.YtminbdcabacfbaaGreatDoor.V
set_option linter.unusedVariables false
set_option linter.unusedSimpArgs false
open Go.RowKit

theorem varL_plain (c : UInt8) (r : List UInt8) : varL (c :: r) = (decide ((c :: r).length ≤ 32) && ofB bgI c && plainL (97 :: r)) := by
  have h : plainL (97 :: r) = r.all (ofB wrdI) := by
    show (!((97 :: r) == [110, 111, 116]) && smallI ((97 : UInt8).toNat : Int) && r.all fun b => wordI (b.toNat : Int)) = _
    have h1 : ((97 :: r) == ([110, 111, 116] : List UInt8)) = false := by rw [beq_eq_false_iff_ne]; intro e; injection e with e; exact absurd e (by decide)
    rw [h1, show smallI ((97 : UInt8).toNat : Int) = true from by decide]
    simp only [Bool.not_false, Bool.true_and]
    exact congrArg (List.all r) (funext fun b => wordI_of b)
  rw [h]
  rfl
set_option maxRecDepth 100000 in
set_option maxHeartbeats 4000000 in
theorem prVar_calls (x : List UInt8) (w : World) (hx : x.length ≤ 1099511627776) :
    Calls Tryz.prog 138 #[.string (bs x)] w fun e w' => e = .returned (.bool (varL x)) ∧ Below w.heap.size w w' := by
  cases x with
  | nil =>
    have h0 : (bs []).toList = [] := bs_list []
    go_enter Tryz.func138, Tryz.ntmps138
    go_wp2_with fail
    go_ret
    exact ⟨rfl, Below.refl _ _⟩
  | cons c r =>
    obtain ⟨s, hs⟩ : ∃ s, bs (c :: r) = s := ⟨_, rfl⟩
    have h0 : ¬ s.toList = [] := by rw [← hs, bs_list]; simp
    have hem : s.toList.isEmpty = false := by rw [← hs, bs_list]; rfl
    have hz : s.size = r.length + 1 := by rw [← hs, bs_size]; rfl
    have hp : 0 < s.size := by omega
    have hp1 : 1 ≤ (s.size : Int) := by omega
    have hb : (s[0]'hp).toNat = c.toNat := by subst hs; rfl
    have hm : ¬ 9223372036854775807 < 1 + (s.size - 1) := by simp only [List.length_cons] at hx; omega
    have HV := Lib.hid (varL_plain c r)
    have HP := Lib.hid (show ∀ W, Calls Tryz.prog 76 #[.string (⟨#[97]⟩ ++ s.extract 1 s.size)] W (fun e w' => e = .returned (.bool (plainL (97 :: r))) ∧ Below W.heap.size W w') from fun W => by
      have he : (⟨#[97]⟩ ++ s.extract 1 s.size : ByteArray) = bs (97 :: r) := by
        subst hs
        apply ByteArray.ext
        simp [bs, ByteArray.data_append, ByteArray.size]
      rw [he]
      have := plain_calls (bs (97 :: r)) W (by rw [bs_size]; simp only [List.length_cons] at hx ⊢; unfold maxLen; omega)
      exact this)
    rw [hs]
    by_cases hl : (s.size : Int) ≤ 32
    · by_cases h1 : 65 ≤ ((s[0]'hp).toNat : Int)
      · by_cases h2 : ((s[0]'hp).toNat : Int) ≤ 90
        · have HE := Lib.hid (show varL (c :: r) = plainL (97 :: r) by
            rw [HV.out, decide_eq_true (by simp only [List.length_cons]; omega), show ofB bgI c = true from by simp only [ofB, bgI]; simp; omega]
            rfl)
          clear hs hz hb hx
          go_enter Tryz.func138, Tryz.ntmps138
          go_wp2_with (go_at_call 76; ((with_reducible refine (HP.out _).mono ?_); rintro e w2 ⟨rfl, hb2⟩; have HB2 := Lib.hid hb2; clear hb2))
          go_ret
          exact ⟨by rw [HE.out]; rfl, HB2.out⟩
        · have HE := Lib.hid (show varL (c :: r) = false by
            rw [HV.out, show ofB bgI c = false from by simp only [ofB, bgI]; simp; omega]
            simp)
          clear hs hz hb hx
          go_enter Tryz.func138, Tryz.ntmps138
          go_wp2_with fail
          go_ret
          exact ⟨by rw [HE.out]; rfl, Below.refl _ _⟩
      · have HE := Lib.hid (show varL (c :: r) = false by
          rw [HV.out, show ofB bgI c = false from by simp only [ofB, bgI]; simp; omega]
          simp)
        clear hs hz hb hx
        go_enter Tryz.func138, Tryz.ntmps138
        go_wp2_with fail
        go_ret
        exact ⟨by rw [HE.out]; rfl, Below.refl _ _⟩
    · have HE := Lib.hid (show varL (c :: r) = false by
        rw [HV.out, decide_eq_false (by simp only [List.length_cons]; omega)]
        rfl)
      clear hs hz hb hx
      go_enter Tryz.func138, Tryz.ntmps138
      go_wp2_with fail
      go_ret
      exact ⟨by rw [HE.out]; rfl, Below.refl _ _⟩

set_option maxRecDepth 100000 in
set_option maxHeartbeats 4000000 in
theorem prBare_calls (s : Bool) (y : List UInt8) (n : Int) (w : World) :
    Calls Tryz.prog 139 #[.agg #[.bool s, .string (bs y), .int .i64 n]] w fun e w' => e = .returned (.bool (if s then n == 0 else y.isEmpty)) ∧ Below w.heap.size w w' := by
  have HB := Lib.hid ((Below.refl w.heap.size w).alloc (Nat.le_refl _) (.cells #[.bool s, .string (bs y), .int .i64 n] 43))
  have HY := Lib.hid (show (bs y).toList.isEmpty = y.isEmpty by rw [bs_list])
  cases s with
  | true =>
    go_enter Tryz.func139, Tryz.ntmps139
    go_wp2_with fail
    go_ret
    exact ⟨rfl, HB.out⟩
  | false =>
    go_enter Tryz.func139, Tryz.ntmps139
    go_wp2_with fail
    go_ret
    exact ⟨by rw [← HY.out]; rfl, HB.out⟩

set_option maxRecDepth 100000 in
set_option maxHeartbeats 4000000 in
theorem prName_calls (p : List UInt8) (w : World) (hp : p.length ≤ 1099511627776) :
    Calls Tryz.prog 45 #[.string (bs p)] w fun e w' => e = .returned (.bool (nameL p)) ∧ Below w.heap.size w w' := by
  have HP := Lib.hid (fun (W : World) => (show Calls Tryz.prog 76 #[.string (bs p)] W (fun e w' => e = .returned (.bool (plainL p)) ∧ Below W.heap.size W w') from plain_calls (bs p) W (by rw [bs_size]; unfold maxLen; omega)))
  cases hv : plainL p with
  | false =>
    have HE := Lib.hid (show nameL p = false by unfold nameL; rw [hv]; rfl)
    have HV := Lib.hid hv
    clear hv
    go_enter Tryz.func45, Tryz.ntmps45
    go_wp2_with (go_at_call 76; ((with_reducible refine (HP.out _).mono ?_); rw [HV.out]; rintro e w2 ⟨rfl, hb2⟩; have HB2 := Lib.hid hb2; clear hb2))
    go_ret
    exact ⟨by rw [HE.out]; rfl, HB2.out⟩
  | true =>
    have HE := Lib.hid (show nameL p = decide (((bs p).size : Int) ≤ 32) by unfold nameL; rw [hv, bs_size, Bool.true_and, decide_eq_decide]; omega)
    have HV := Lib.hid hv
    clear hv
    go_enter Tryz.func45, Tryz.ntmps45
    go_wp2_with (go_at_call 76; ((with_reducible refine (HP.out _).mono ?_); rw [HV.out]; rintro e w2 ⟨rfl, hb2⟩; have HB2 := Lib.hid hb2; clear hb2))
    go_ret
    exact ⟨by rw [HE.out]; rfl, HB2.out⟩
end Go.Proofs.YtminbdcabacfbaaGreatDoor.V

namespace Go.Proofs.YtminbdcabacfbaaGreatDoor.V
set_option linter.unusedVariables false
set_option linter.unusedSimpArgs false
open Go.RowKit

set_option maxRecDepth 100000 in
set_option maxHeartbeats 4000000 in
theorem prMayT_calls (t : TermL) (w : World) (hx : t.x.length ≤ 1099511627776) :
    Calls Tryz.prog 111 #[.agg #[.bool t.v, .string (bs t.x), .bool t.s, .string (bs t.t), .int .i64 t.n]] w fun e w' => e = .returned (.bool (mayT t)) ∧ Below w.heap.size w w' := by
  obtain ⟨v, x, s, y, n⟩ := t
  dsimp only at hx ⊢
  have hbl := (Below.refl w.heap.size w).alloc (Nat.le_refl _) (.cells #[.bool v, .string (bs x), .bool s, .string (bs y), .int .i64 n] 45)
  have hnw := heap_alloc_new w (.cells #[.bool v, .string (bs x), .bool s, .string (bs y), .int .i64 n] 45)
  have HB0 := Lib.hid hbl
  have HNW := Lib.hid hnw
  have HX : (bs x).toList.isEmpty = x.isEmpty := by rw [bs_list]
  have HY : (bs y).toList.isEmpty = y.isEmpty := by rw [bs_list]
  have hbx : (bs x).toList = x := bs_list x
  have hby : (bs y).toList = y := bs_list y
  have HVAR := Lib.hid (fun (W : World) => prVar_calls x W hx)
  have HBARE := Lib.hid (fun (W : World) => prBare_calls s y n W)
  clear hbl hnw hx
  cases v with
  | true =>
    cases hv : varL x with
    | false =>
      have HE := Lib.hid (show mayT ⟨true, x, s, y, n⟩ = false by unfold mayT; rw [if_pos rfl, hv]; rfl)
      have HV := Lib.hid hv
      clear hv
      go_enter Tryz.func111, Tryz.ntmps111
      go_wp2_with (go_at_call 138; ((with_reducible refine (HVAR.out _).mono ?_); rw [HV.out]; rintro e w2 ⟨rfl, hb2⟩; have HB2 := Lib.hid (HB0.out.trans (hb2.mono HB0.out.size)); clear hb2))
      go_ret
      exact ⟨by rw [HE.out]; rfl, HB2.out⟩
    | true =>
      have HE := Lib.hid (show mayT ⟨true, x, s, y, n⟩ = (!s && y.isEmpty && n == 0) by unfold mayT; rw [if_pos rfl, hv]; rfl)
      have HV := Lib.hid hv
      clear hv
      go_enter Tryz.func111, Tryz.ntmps111
      go_wp2_with (go_at_call 138; ((with_reducible refine (HVAR.out _).mono ?_); rw [HV.out]; rintro e w2 ⟨rfl, hb2⟩; have HB2 := Lib.hid (HB0.out.trans (hb2.mono HB0.out.size)); have e2 := cell_below hb2 (cell_of_row _ _ 2 _ _ _ HNW.out); have e3 := cell_below hb2 (cell_of_row _ _ 3 _ _ _ HNW.out); have e4 := cell_below hb2 (cell_of_row _ _ 4 _ _ _ HNW.out); clear hb2))
      all_goals
        go_ret
        refine ⟨?_, HB2.out⟩
        have hv2 := HV.out
        simp_all [mayT]
  | false =>
    cases hv : x.isEmpty with
    | false =>
      have hne : ¬ (bs x).toList = [] := by rw [bs_list]; intro e; subst e; cases hv
      have HE := Lib.hid (show mayT ⟨false, x, s, y, n⟩ = false by unfold mayT; rw [if_neg (show ¬ false = true by decide), hv]; rfl)
      clear hv HX HY hbx hby
      go_enter Tryz.func111, Tryz.ntmps111
      go_wp2_with fail
      go_ret
      exact ⟨by rw [HE.out]; rfl, HB0.out⟩
    | true =>
      have hne : (bs x).toList = [] := by rw [bs_list]; exact List.isEmpty_iff.1 hv
      have hne2 : (bs x).toList.isEmpty = true := by rw [hne]; rfl
      have HE2 := Lib.hid (List.isEmpty_iff.1 hv)
      have HE := Lib.hid (show mayT ⟨false, x, s, y, n⟩ = (if s then n == 0 else y.isEmpty) by unfold mayT; rw [if_neg (show ¬ false = true by decide), hv]; rfl)
      clear hv HX HY hbx hby
      go_enter Tryz.func111, Tryz.ntmps111
      go_wp2_with (go_at_call 139; ((with_reducible refine (HBARE.out _).mono ?_); rintro e w2 ⟨rfl, hb2⟩; have HB2 := Lib.hid (HB0.out.trans (hb2.mono HB0.out.size)); clear hb2))
      all_goals
        go_ret
        refine ⟨?_, HB2.out⟩
        have hv2 := HE2.out
        simp_all [mayT]
end Go.Proofs.YtminbdcabacfbaaGreatDoor.V

namespace Go.Proofs.YtminbdcabacfbaaGreatDoor.V
set_option linter.unusedVariables false
set_option linter.unusedSimpArgs false
open Go.RowKit

/-- Things whose texts are not too great. -/
def TermSz (t : TermL) : Prop := t.x.length ≤ 1099511627776
def AtomSz (a : AtomL) : Prop := a.p.length ≤ 1099511627776 ∧ a.a.length < 1000000000 ∧ ∀ t ∈ a.a, TermSz t
def LitSz (l : LitL) : Prop := AtomSz l.a ∧ TermSz l.l ∧ TermSz l.r
def RuleSz (r : RuleL) : Prop := AtomSz r.h ∧ r.b.length < 1000000000 ∧ ∀ l ∈ r.b, LitSz l
def DeclSz (d : DeclL) : Prop := d.p.length ≤ 1099511627776

set_option maxRecDepth 100000 in
set_option maxHeartbeats 4000000 in
theorem allCT_calls  (t : TermL) (r : Nat) (w : World) (hr : w.cell? ⟨r, 0, none⟩ = some (.func (.func 111) #[] #[])) (hs : TermSz t) :
    Calls Tryz.prog 137 #[.agg #[.bool t.v, .string (bs t.x), .bool t.s, .string (bs t.t), .int .i64 t.n], .pointer (some ⟨r, 0, none⟩)] w fun e w' => e = .returned (.bool (!(mayT t))) ∧ Below w.heap.size w w' := by
  have hbl := (Below.refl w.heap.size w).alloc (Nat.le_refl _) (.cells #[.bool t.v, .string (bs t.x), .bool t.s, .string (bs t.t), .int .i64 t.n] 45)
  have hnw := heap_alloc_new w (.cells #[.bool t.v, .string (bs t.x), .bool t.s, .string (bs t.t), .int .i64 t.n] 45)
  have HB0 := Lib.hid hbl
  have hr1 := cell_below hbl hr

  have d0 := cell_of_row _ _ 0 _ _ _ hnw
  have d1 := cell_of_row _ _ 1 _ _ _ hnw
  have d2 := cell_of_row _ _ 2 _ _ _ hnw
  have d3 := cell_of_row _ _ 3 _ _ _ hnw
  have d4 := cell_of_row _ _ 4 _ _ _ hnw
  have HF := Lib.hid (fun (W : World) => prMayT_calls t W hs)
  clear hbl hnw hr hs
  go_enter Tryz.func137, Tryz.ntmps137
  go_wp2_with (go_at_call 111; ((with_reducible refine (HF.out _ ).mono ?_); rintro e w2 ⟨rfl, hb2⟩; have HB2 := Lib.hid (HB0.out.trans (hb2.mono HB0.out.size)); clear hb2))
  go_ret
  exact ⟨rfl, HB2.out⟩

set_option maxRecDepth 100000 in
set_option maxHeartbeats 8000000 in
theorem allIT_calls (A : Option Addr) (n c r : Nat) (L : List TermL) (w : World) (hr : w.cell? ⟨r, 0, none⟩ = some (.func (.func 111) #[] #[])) (hn : n = L.length) (hT : TermsRd w A L) (hok : ∀ t ∈ L, TermSz t) (hn2 : n < 1000000000) :
    Calls Tryz.prog 164 #[.slice A n c, .func (.func 137) #[] #[.pointer (some ⟨r, 0, none⟩)]] w fun e w' => ∃ k : Int, e = .returned (.int .i64 k) ∧ decide (0 ≤ k) = !(L.all mayT) ∧ Below w.heap.size w w' := by
  have HT := Lib.hid hT
  have HOK := Lib.hid hok
  have HN := Lib.hid hn
  have HR := Lib.hid hr
  clear hT hok hn hr
  go_enter Tryz.func164, Tryz.ntmps164
  go_wp2_with fail
  go_loopw [8] (fun i wr => ∃ k : Nat, k ≤ n ∧ i = .int .i64 (k : Int) ∧ (L.take k).all mayT = true ∧ Below w.heap.size w wr) (fun i _ => n + 1 - (intOf i).toNat)
  case atStart => exact ⟨0, Nat.zero_le _, rfl, rfl, Below.refl _ _⟩
  case round =>
    obtain ⟨k, hk, rfl, hall, hb⟩ := hrel
    have HB := Lib.hid hb
    by_cases hlt : k < n
    · have hd : decide ((k : Int) < (n : Int)) = true := decide_eq_true (by omega)
      obtain ⟨t, hx⟩ : ∃ t, L[k]? = some t := ⟨_, List.getElem?_eq_getElem (by rw [← HN.out]; exact hlt)⟩
      obtain ⟨a, rfl, hh⟩ := HT.out k t hx
      have hh2 := hh.below hb
      have hgt := HOK.out t (List.mem_of_getElem? hx)
      have hsn : (L.take (k + 1)).all mayT = mayT t := by
        rw [List.take_add_one, List.all_append, hall, hx]
        simp
      have hmt : t ∈ L := List.mem_of_getElem? hx
      have HRr := Lib.hid (cell_below hb HR.out)
      have HC := Lib.hid (fun (W : World) (hr : W.cell? ⟨r, 0, none⟩ = some (.func (.func 111) #[] #[])) => allCT_calls t r W hr hgt)
      have d0 := hh2.c0
      have d1 := hh2.c1
      have d2 := hh2.c2
      have d3 := hh2.c3
      have d4 := hh2.c4
      cases hv : mayT t with
      | true =>
        rw [hv] at hsn
        have HV := Lib.hid hv
        have HSN := Lib.hid hsn
        clear hb hh hh2 hgt hx hall hv hsn hmt
        go_wp2_with (go_at_call 137; ((with_reducible refine (HC.out _ HRr.out).mono ?_); rw [HV.out]; rintro e w2 ⟨rfl, hb2⟩; have HB2 := Lib.hid (HB.out.trans (hb2.mono HB.out.size)); clear hb2))
        go_roundw
        case rel => exact ⟨k + 1, hlt, by simp, HSN.out, HB2.out⟩
        case measure => simp [intOf]; omega
      | false =>
        have HV := Lib.hid hv
        have HALL := Lib.hid (show L.all mayT = false by
          rw [List.all_eq_false]
          exact ⟨t, hmt, by rw [hv]; simp⟩)
        clear hb hh hh2 hgt hx hall hv hsn hmt
        go_wp2_with (go_at_call 137; ((with_reducible refine (HC.out _ HRr.out).mono ?_); rw [HV.out]; rintro e w2 ⟨rfl, hb2⟩; have HB2 := Lib.hid (HB.out.trans (hb2.mono HB.out.size)); clear hb2))
        go_ret
        exact ⟨(k : Int), rfl, by rw [HALL.out]; exact decide_eq_true (by omega), HB2.out⟩
    · have hkn : k = n := by omega
      subst hkn
      have hd : decide ((k : Int) < (k : Int)) = false := decide_eq_false (by omega)
      have htk : L.take k = L := List.take_of_length_le (by rw [← HN.out]; exact Nat.le_refl _)
      rw [htk] at hall
      have HALL := Lib.hid hall
      clear hb hlt hk hall htk
      go_wp2_with fail
      go_ret
      exact ⟨-1, rfl, by rw [HALL.out]; decide, HB.out⟩
set_option maxRecDepth 100000 in
set_option maxHeartbeats 4000000 in
theorem allFT_calls (A : Option Addr) (n c r : Nat) (L : List TermL) (w : World) (hr : w.cell? ⟨r, 0, none⟩ = some (.func (.func 111) #[] #[])) (hn : n = L.length) (hT : TermsRd w A L) (hok : ∀ t ∈ L, TermSz t) (hn2 : n < 1000000000) :
    Calls Tryz.prog 136 #[.slice A n c, .func (.func 137) #[] #[.pointer (some ⟨r, 0, none⟩)]] w fun e w' => e = .returned (.bool (!(L.all mayT))) ∧ Below w.heap.size w w' := by
  have HI := Lib.hid (allIT_calls A n c r L w hr hn hT hok hn2)
  clear hr hn hT hok
  go_enter Tryz.func136, Tryz.ntmps136
  go_wp2_with (go_at_call 164; ((with_reducible refine HI.out.mono ?_); rintro e w2 ⟨k, rfl, hk, hb2⟩; have HB2 := Lib.hid hb2; have HK := Lib.hid hk; clear hb2 hk))
  go_ret
  exact ⟨by rw [← HK.out]; rfl, HB2.out⟩
set_option maxRecDepth 100000 in
set_option maxHeartbeats 4000000 in
theorem allT_calls (A : Option Addr) (n c : Nat) (L : List TermL) (w : World) (hn : n = L.length) (hT : TermsRd w A L) (hok : ∀ t ∈ L, TermSz t) (hn2 : n < 1000000000) :
    Calls Tryz.prog 110 #[.slice A n c, .func (.func 111) #[] #[]] w fun e w' => e = .returned (.bool (L.all mayT)) ∧ Below w.heap.size w w' := by
  have hbl := (Below.refl w.heap.size w).alloc (Nat.le_refl _) (.cells #[.func (.func 111) #[] #[]] 128)
  have hnw := heap_alloc_new w (.cells #[.func (.func 111) #[] #[]] 128)
  have HB0 := Lib.hid hbl
  have HI := Lib.hid (allFT_calls A n c w.heap.size L _ (cell_of_row _ _ 0 _ _ _ hnw) hn (hT.below hbl) hok hn2)
  clear hbl hnw hn hT hok
  go_enter Tryz.func110, Tryz.ntmps110
  go_wp2_with (go_at_call 136; ((with_reducible refine HI.out.mono ?_); rintro e w2 ⟨rfl, hb2⟩; have HB2 := Lib.hid (HB0.out.trans (hb2.mono HB0.out.size)); clear hb2))
  go_ret
  refine ⟨?_, HB2.out⟩
  simp

set_option maxRecDepth 100000 in
set_option maxHeartbeats 8000000 in
theorem prMayA_calls (A : Option Addr) (n c : Nat) (x : AtomL) (w : World) (hn : n = x.a.length) (hT : TermsRd w A x.a) (hs : AtomSz x) :
    Calls Tryz.prog 81 #[.agg #[.string (bs x.p), .slice A n c]] w fun e w' => e = .returned (.bool (mayA x)) ∧ Below w.heap.size w w' := by
  have hbl := (Below.refl w.heap.size w).alloc (Nat.le_refl _) (.cells #[.string (bs x.p), .slice A n c] 25)
  have hnw := heap_alloc_new w (.cells #[.string (bs x.p), .slice A n c] 25)
  have HB0 := Lib.hid hbl
  have HT0 := Lib.hid (hT.below hbl)
  have HNW := Lib.hid hnw
  have d0 := cell_of_row _ _ 0 _ _ _ hnw
  have HNM := Lib.hid (fun (W : World) => prName_calls x.p W hs.1)
  have HAL := Lib.hid (fun (W : World) (h : TermsRd W A x.a) => allT_calls A n c x.a W hn h hs.2.2 (by rw [hn]; exact hs.2.1))
  have hE : mayA x = (nameL x.p && decide ((n : Int) ≤ 6) && x.a.all mayT) := by
    unfold mayA
    rw [show decide (x.a.length ≤ 6) = decide ((n : Int) ≤ 6) from by rw [decide_eq_decide]; omega]
  clear hbl hnw hT hs hn
  cases hv : nameL x.p with
  | false =>
    have HV := Lib.hid hv
    have HE := Lib.hid (show mayA x = false by rw [hE, hv]; rfl)
    clear hv hE
    go_enter Tryz.func81, Tryz.ntmps81
    go_wp2_with (go_at_call 45; ((with_reducible refine (HNM.out _).mono ?_); rw [HV.out]; rintro e w2 ⟨rfl, hb2⟩; have HB2 := Lib.hid (HB0.out.trans (hb2.mono HB0.out.size)); clear hb2))
    go_ret
    exact ⟨by rw [HE.out]; rfl, HB2.out⟩
  | true =>
    by_cases h6 : (n : Int) ≤ 6
    · have HV := Lib.hid hv
      have HE := Lib.hid (show mayA x = x.a.all mayT by rw [hE, hv, decide_eq_true h6]; rfl)
      clear hv hE
      go_enter Tryz.func81, Tryz.ntmps81
      go_wp2_with (first
        | (go_at_call 45; ((with_reducible refine (HNM.out _).mono ?_); rw [HV.out]; rintro e w2 ⟨rfl, hb2⟩; have HB2 := Lib.hid (HB0.out.trans (hb2.mono HB0.out.size)); have HT2 := Lib.hid (HT0.out.below hb2); have e1 := cell_below hb2 (cell_of_row _ _ 1 _ _ _ HNW.out); clear hb2))
        | (go_at_call 110; ((with_reducible refine (HAL.out _ HT2.out).mono ?_); rintro e w3 ⟨rfl, hb3⟩; have HB3 := Lib.hid (HB2.out.trans (hb3.mono HB2.out.size)); clear hb3)))
      go_ret
      exact ⟨by rw [HE.out]; rfl, HB3.out⟩
    · have HV := Lib.hid hv
      have HE := Lib.hid (show mayA x = false by rw [hE, hv, decide_eq_false h6]; rfl)
      clear hv hE
      go_enter Tryz.func81, Tryz.ntmps81
      go_wp2_with (go_at_call 45; ((with_reducible refine (HNM.out _).mono ?_); rw [HV.out]; rintro e w2 ⟨rfl, hb2⟩; have HB2 := Lib.hid (HB0.out.trans (hb2.mono HB0.out.size)); have e1 := cell_below hb2 (cell_of_row _ _ 1 _ _ _ HNW.out); clear hb2))
      go_ret
      exact ⟨by rw [HE.out]; rfl, HB2.out⟩
end Go.Proofs.YtminbdcabacfbaaGreatDoor.V

namespace Go.Proofs.YtminbdcabacfbaaGreatDoor.V
set_option linter.unusedVariables false
set_option linter.unusedSimpArgs false

def wT (t : TermL) : Nat := t.x.length + 2 * t.t.length + 24
def wA (a : AtomL) : Nat := a.p.length + 4 + (a.a.map wT).sum
def wL (l : LitL) : Nat := wA l.a + l.o.length + wT l.l + wT l.r + 8
def wR (r : RuleL) : Nat := wA r.h + 8 + (r.b.map wL).sum
def wD (d : DeclL) : Nat := d.p.length + 30
def wP (ds : List DeclL) (rs : List RuleL) : Nat := (ds.map wD).sum + (rs.map wR).sum
def nOk (n : Int) : Prop := -9223372036854775808 ≤ n ∧ n ≤ 9223372036854775807
def nA (a : AtomL) : Prop := ∀ t ∈ a.a, nOk t.n
def nL (l : LitL) : Prop := nA l.a ∧ nOk l.l.n ∧ nOk l.r.n
def nR (r : RuleL) : Prop := nA r.h ∧ ∀ l ∈ r.b, nL l
def nP (ds : List DeclL) (rs : List RuleL) : Prop := (∀ d ∈ ds, nOk d.n) ∧ ∀ r ∈ rs, nR r

theorem lenT_term (t : TermL) (h : nOk t.n) : (termT t).length + 2 ≤ wT t := by
  have h2 := escL_le2 t.t
  have h3 := Lib.itoa_length_le t.n h.1 h.2
  unfold termT wT textL
  split
  · omega
  · split
    · omega
    · split
      · omega
      · simp
        omega
theorem sepT_len {α : Type} (f : α → List UInt8) (w : α → Nat) : ∀ (l : List α), (∀ x ∈ l, (f x).length + 2 ≤ w x) → (sepT cmaT (l.map f)).length ≤ (l.map w).sum
  | [], _ => by simp [sepT]
  | [x], h => by
    have := h x (List.mem_cons_self ..)
    simp [sepT]
    omega
  | x :: y :: r, h => by
    have h1 := h x (List.mem_cons_self ..)
    have h2 := sepT_len f w (y :: r) fun z hz => h z (List.mem_cons_of_mem _ hz)
    have h3 : (sepT cmaT (f y :: r.map f)).length ≤ ((y :: r).map w).sum := h2
    have e : ((x :: y :: r).map w).sum = w x + ((y :: r).map w).sum := by rw [List.map_cons, List.sum_cons]
    rw [e, List.map_cons, List.map_cons, sepT, List.length_append, List.length_append]
    have : cmaT.length = 2 := rfl
    omega
theorem lenT_atom (a : AtomL) (h : nA a) : (atomT a).length + 2 ≤ wA a := by
  have h1 := sepT_len termT wT a.a fun t ht => lenT_term t (h t ht)
  unfold atomT wA
  split
  · omega
  · simp only [List.length_append, List.length_singleton]
    omega
theorem lenT_lit (l : LitL) (h : nL l) : (litT l).length + 2 ≤ wL l := by
  have h1 := lenT_atom l.a h.1
  have h2 := lenT_term l.l h.2.1
  have h3 := lenT_term l.r h.2.2
  unfold litT wL
  split
  · omega
  · split
    · simp only [List.length_append, List.length_cons, List.length_nil]
      omega
    · split
      · simp only [List.length_append, List.length_cons, List.length_nil]
        omega
      · simp
theorem lenT_rule (r : RuleL) (h : nR r) : (ruleT r).length + 1 ≤ wR r := by
  have h1 := lenT_atom r.h h.1
  have h2 := sepT_len litT wL r.b fun t ht => lenT_lit t (h.2 t ht)
  unfold ruleT wR
  split
  · simp only [List.length_append, List.length_singleton]
    omega
  · simp only [List.length_append, List.length_cons, List.length_nil]
    omega
theorem lenT_decl (d : DeclL) (h : nOk d.n) : (declT d).length + 1 ≤ wD d := by
  have h3 := Lib.itoa_length_le d.n h.1 h.2
  unfold declT wD
  simp only [List.length_append, List.length_cons, List.length_nil]
  omega
theorem flat_len {α : Type} (f : α → List UInt8) (w : α → Nat) : ∀ (l : List α), (∀ x ∈ l, (f x).length + 1 ≤ w x) → (l.flatMap fun x => f x ++ [10]).length ≤ (l.map w).sum
  | [], _ => by simp
  | x :: r, h => by
    have h1 := h x (List.mem_cons_self ..)
    have h2 := flat_len f w r fun z hz => h z (List.mem_cons_of_mem _ hz)
    rw [List.flatMap_cons, List.length_append, List.length_append, List.map_cons, List.sum_cons]
    have : ([10] : List UInt8).length = 1 := rfl
    omega
theorem lenT_prog (ds : List DeclL) (rs : List RuleL) (h : nP ds rs) : (prgT ds rs).length ≤ wP ds rs := by
  have h1 := flat_len declT wD ds fun d hd => lenT_decl d (h.1 d hd)
  have h2 := flat_len ruleT wR rs fun r hr => lenT_rule r (h.2 r hr)
  unfold prgT wP
  rw [List.length_append]
  omega
theorem sum_mem {α : Type} (w : α → Nat) {x : α} : ∀ {l : List α}, x ∈ l → w x ≤ (l.map w).sum
  | [], h => by cases h
  | y :: r, h => by
    rw [List.map_cons, List.sum_cons]
    rcases List.mem_cons.1 h with rfl | h
    · omega
    · have := sum_mem w h
      omega

theorem mayP_parts {ds : List DeclL} {rs : List RuleL} (h : mayP ds rs = true) : ds.length ≤ 400 ∧ rs.length ≤ 400 ∧ (∀ d ∈ ds, mayD d = true) ∧ ∀ r ∈ rs, mayR r = true := by
  unfold mayP at h
  simp only [Bool.and_eq_true, decide_eq_true_eq, List.all_eq_true] at h
  exact ⟨h.1.1.1, h.1.1.2, h.1.2, h.2⟩
theorem termOk_of {t : TermL} (h : nOk t.n) (hl : wT t ≤ 1099511627776) : TermOk t := ⟨by unfold wT at hl; omega, h⟩
theorem atomOk_of {a : AtomL} (h : nA a) (hl : wA a ≤ 1099511627776) (hn : a.a.length < 1000000000) : AtomOk a := by
  refine ⟨hn, fun t ht => termOk_of (h t ht) ?_⟩
  have := sum_mem wT ht
  unfold wA at hl
  omega
theorem litOk_of {l : LitL} (h : nL l) (hl : wL l ≤ 1099511627776) (hn : l.a.a.length < 1000000000) : LitOk' l := by
  unfold wL at hl
  exact ⟨atomOk_of h.1 (by omega) hn, termOk_of h.2.1 (by omega), termOk_of h.2.2 (by omega)⟩
theorem ruleOk_of {r : RuleL} (h : nR r) (hl : wR r ≤ 1099511627776) (hn : r.h.a.length < 1000000000) (hb : r.b.length < 1000000000) (hbb : ∀ l ∈ r.b, l.a.a.length < 1000000000) : RuleOk' r := by
  unfold wR at hl
  refine ⟨atomOk_of h.1 (by omega) hn, hb, fun l hll => litOk_of (h.2 l hll) ?_ (hbb l hll)⟩
  have := sum_mem wL hll
  omega
theorem termSz_of {t : TermL} (hl : wT t ≤ 1099511627776) : TermSz t := by unfold TermSz; unfold wT at hl; omega
theorem atomSz_of {a : AtomL} (hl : wA a ≤ 1099511627776) (hn : a.a.length < 1000000000) : AtomSz a := by
  refine ⟨by unfold wA at hl; omega, hn, fun t ht => termSz_of ?_⟩
  have := sum_mem wT ht
  unfold wA at hl
  omega
theorem litSz_of {l : LitL} (hl : wL l ≤ 1099511627776) (hn : l.a.a.length < 1000000000) : LitSz l := by
  unfold wL at hl
  exact ⟨atomSz_of (by omega) hn, termSz_of (by omega), termSz_of (by omega)⟩
theorem ruleSz_of {r : RuleL} (hl : wR r ≤ 1099511627776) (hn : r.h.a.length < 1000000000) (hb : r.b.length < 1000000000) (hbb : ∀ l ∈ r.b, l.a.a.length < 1000000000) : RuleSz r := by
  unfold wR at hl
  refine ⟨atomSz_of (by omega) hn, hb, fun l hll => litSz_of ?_ (hbb l hll)⟩
  have := sum_mem wL hll
  omega
/-- A program whose texts are not too great. -/
structure ProgOk (ds : List DeclL) (rs : List RuleL) : Prop where
  n : nP ds rs
  w : wP ds rs ≤ 1099511627776
  d : ds.length < 1000000000
  r : rs.length < 1000000000
  l : ∀ r ∈ rs, r.h.a.length < 1000000000 ∧ r.b.length < 1000000000 ∧ ∀ l ∈ r.b, l.a.a.length < 1000000000
theorem wA_len (a : AtomL) : a.a.length * 24 ≤ wA a := by
  have : ∀ l : List TermL, l.length * 24 ≤ (l.map wT).sum := by
    intro l
    induction l with
    | nil => simp
    | cons x r ih => rw [List.map_cons, List.sum_cons, List.length_cons, Nat.succ_mul]; unfold wT at *; omega
  have h := this a.a
  unfold wA
  omega
end Go.Proofs.YtminbdcabacfbaaGreatDoor.V

namespace Go.Proofs.YtminbdcabacfbaaGreatDoor.V
set_option linter.unusedVariables false
set_option linter.unusedSimpArgs false
open Go.RowKit

theorem RulesAt.base {B B' : Nat} {W : World} {l : List RuleL} {v : Value} (h : RulesAt B W l v) (hB : B' ≤ B) : RulesAt B' W l v := by
  obtain ⟨qs, h1, h2, h3⟩ := h
  exact ⟨qs, h1, o_base h2 hB, fun q hq => ⟨(h3 q hq).1.base hB, (h3 q hq).2.base hB⟩⟩
theorem pokq {P : Nat} {bad : Int} (v : Bool) (w : World) (h : w.cell? ⟨P, 4, none⟩ = some (.int .i64 bad)) (hv : (bad == 0) = v) :
    Calls Tryz.prog 33 #[.pointer (some ⟨P, 0, none⟩)] w fun e w' => e = .returned (.bool v) ∧ w' = w := by
  cases v
  all_goals
    go_enter Tryz.func33, Tryz.ntmps33
    go_wp2
    go_ret
    exact ⟨rfl, rfl⟩
theorem clauseM_few {N : Nat} {ds ds' : List DeclL} {rs rs' : List RuleL} {r r1 : List TP} (h : clauseM N ds rs r = .ok (ds', rs') r1) (hd : ds.length ≤ 400) (hr : rs.length ≤ 400) : ds'.length ≤ 400 ∧ rs'.length ≤ 400 ∧ r1.length < r.length := by
  unfold clauseM at h
  split at h
  · split at h
    · simp at h
    · rename_i h4
      cases hp : declP N r with
      | bad a e => rw [hp] at h; simp [Par.map] at h
      | ok d r2 =>
        rw [hp] at h
        simp only [Par.map, Par.ok.injEq, Prod.mk.injEq] at h
        have := declP_lt hp
        have h4' : ¬ ds.length = 400 := by simpa using h4
        rw [← h.1.1, ← h.1.2, ← h.2]
        simp
        omega
  · split at h
    · simp at h
    · rename_i h4
      cases hp : ruleP N r with
      | bad a e => rw [hp] at h; simp [Par.map] at h
      | ok d r2 =>
        rw [hp] at h
        simp only [Par.map, Par.ok.injEq, Prod.mk.injEq] at h
        have := ruleP_lt hp
        have h4' : ¬ rs.length = 400 := by simpa using h4
        rw [← h.1.1, ← h.1.2, ← h.2]
        simp
        omega
/-- How much there is to do. -/
def todo (P n : Nat) (w : World) : Nat := match w.cell? ⟨P, 4, none⟩ with
  | some (.int _ 0) => (match w.cell? ⟨P, 1, none⟩ with
    | some v => n + 1 - (intOf v).toNat
    | none => 0)
  | _ => 0
theorem todo_ok {P N nx : Nat} {L : List TP} {pl : Int} {A : Option Addr} {c : Nat} {w : World} (h : PS P L N nx pl 0 A c w) : todo P L.length w = L.length + 1 - nx := by
  unfold todo
  rw [h.c4, h.c1]
  simp [intOf]
theorem todo_bad {P N nx : Nat} {L : List TP} {pl bad : Int} {A : Option Addr} {c n : Nat} {w : World} (h : PS P L N nx pl bad A c w) (hb : bad ≠ 0) : todo P n w = 0 := by
  unfold todo
  rw [h.c4]
  split
  · rename_i e
    injection e with e
    injection e with _ e
    exact absurd e hb
  · rfl

/-- What Parse hands back. -/
def ParseIs (s : ByteArray) (w : World) (e : Ending) (w' : World) : Prop :=
  Below w.heap.size w w' ∧ match parseL s.data.toList with
    | .bad a n => e = .returned (.tuple #[.agg #[.slice none 0 0, .slice none 0 0], .int .i64 (a : Int), .int .i64 (n : Int)])
    | .ok g => ∃ vd vr, e = .returned (.tuple #[.agg #[vd, vr], .int .i64 0, .int .i64 0]) ∧ DeclsAt w.heap.size w' g.1 vd ∧ RulesAt w.heap.size w' g.2 vr ∧ g.1.length ≤ 400 ∧ g.2.length ≤ 400

set_option maxRecDepth 100000 in
set_option maxHeartbeats 16000000 in
theorem parse_calls (s : ByteArray) (w : World) (hs : s.size ≤ 9223372036854775807) (hE : ErrW w) :
    Calls Tryz.prog 20 #[.string s] w (ParseIs s w) := by
  have HE := Lib.hid (hE.below ((Below.refl w.heap.size w).alloc (Nat.le_refl _) (.cells #[.slice none 0 0, .slice none 0 0] 36)))
  have HR0 := Lib.hid (heap_alloc_new w (.cells #[.slice none 0 0, .slice none 0 0] 36))
  clear hE
  cases ho : scanL s.data.toList with
  | bad a n =>
    have HO := Lib.hid ho
    have HF := Lib.hid (show parseL s.data.toList = .bad a n by unfold parseL; rw [ho])
    clear ho
    go_enter Tryz.func20, Tryz.ntmps20
    go_wp2_with (go_at_call 32; ((with_reducible refine (parsing_calls s _ hs HE.out).mono ?_); rintro e w2 ⟨P, rfl, hP, hb, hsc⟩; rw [HO.out] at hsc; obtain ⟨hn, hp⟩ := hsc; have HN := Lib.hid hn; have hb3 := (Below.refl w2.heap.size w2).alloc (Nat.le_refl _) (.cells #[.slice none 0 0, .slice none 0 0] 36); have hp3 := (hb3.block P (Array.getElem?_eq_some_iff.1 hp).1).trans hp; have hr3 := (hb3.block w.heap.size (Nat.lt_of_lt_of_le (by simp) hb.size)).trans ((hb.block w.heap.size (by simp)).trans HR0.out); have c0 := cell_of_row _ P 0 _ _ _ hp3; have c1 := cell_of_row _ P 1 _ _ _ hp3; have c3 := cell_of_row _ P 3 _ _ _ hp3; have c4 := cell_of_row _ P 4 _ _ _ hp3; have z0 := cell_of_row _ w.heap.size 0 _ _ _ hr3; have z1 := cell_of_row _ w.heap.size 1 _ _ _ hr3; have y0 := frozen_of_row _ w.heap.size 0 _ _ hr3; have y1 := frozen_of_row _ w.heap.size 1 _ _ hr3; have HB := Lib.hid hb; have HPP := Lib.hid hp3; have HRR := Lib.hid hr3; clear hn hp hb hb3 hp3 hr3))
    have HBB := Lib.hid (show ((n : Int) == 0) = false by have := HN.out; simp; omega)
    have C4 := Lib.hid c4
    refine wp_loop_rounds 1 ?_
    rw [rounds_succ]
    go_wp2_with fail
    go_quiet (first | (go_at_call 33; refine Calls.quiet_of_same (pokq false _ (by exact C4.out) HBB.out)))
    generalize hW : World.drewN _ _ = W3
    have d1 : W3.cell? ⟨P, 3, none⟩ = some (.int .i64 (a : Int)) := by rw [← hW]; exact c3
    have d2 : W3.cell? ⟨P, 4, none⟩ = some (.int .i64 (n : Int)) := by rw [← hW]; exact c4
    have x0 : W3.cell? ⟨w.heap.size, 0, none⟩ = some (.slice none 0 0) := by rw [← hW]; exact z0
    have x1 : W3.cell? ⟨w.heap.size, 1, none⟩ = some (.slice none 0 0) := by rw [← hW]; exact z1
    have x2 : W3.frozen? ⟨w.heap.size, 0, none⟩ = false := by rw [← hW]; exact y0
    have x3 : W3.frozen? ⟨w.heap.size, 1, none⟩ = false := by rw [← hW]; exact y1
    have HRR3 := Lib.hid (show W3.heap[w.heap.size]? = some (.cells #[.slice none 0 0, .slice none 0 0] 36 (0, 0)) by rw [← hW]; exact HRR.out)
    have HB3 := Lib.hid (show Below w.heap.size w W3 by rw [← hW]; exact below_drewN' ((((Below.refl w.heap.size w).alloc (Nat.le_refl _) _).trans (HB.out.mono (by simp))).alloc (by have := HB.out.size; simp at this; omega) _) _)
    have D2 := Lib.hid d2
    clear hW c0 c1 c3 c4 z0 z1 y0 y1
    go_wp2_with (go_at_call 33; ((with_reducible refine (pokq false _ D2.out HBB.out).mono ?_); rintro e w' ⟨rfl, hw⟩; rw [hw]; clear hw))
    go_region
    go_wp2_with fail
    have hset := set_at (i := 1) (cs' := #[.slice none 0 0, .slice none 0 0]) (set_at (i := 0) (cs' := #[.slice none 0 0, .slice none 0 0]) HRR3.out (.slice none 0 0) rfl) (.slice none 0 0) rfl
    have q0 := cell_of_row _ _ 0 _ _ _ hset
    have q1 := cell_of_row _ _ 1 _ _ _ hset
    refine bodyPost_ret (v := .tuple #[.agg #[.slice none 0 0, .slice none 0 0], .int .i64 (a : Int), .int .i64 (n : Int)]) (by simp [results, Tryz.results20, go_sem, q0, q1]) rfl ⟨((HB3.out.setCell (Nat.le_refl _) _).setCell (Nat.le_refl _) _).drew, ?_⟩
    rw [HF.out]
  | ok l =>
    have HO := Lib.hid ho
    have HMAX := Lib.hid (scanL_max ho)
    have HF := Lib.hid (show parseL s.data.toList = match progT s.size [] [] l with | .bad a e => .bad a e | .ok g _ => .ok g by
      unfold parseL progT
      rw [ho]
      simp only [Array.length_toList, ByteArray.size_data]
      rfl)
    clear ho
    go_enter Tryz.func20, Tryz.ntmps20
    go_wp2_with (go_at_call 32; ((with_reducible refine (parsing_calls s _ hs HE.out).mono ?_); rintro e w2 ⟨P, rfl, hP, hb, hsc⟩; rw [HO.out] at hsc; obtain ⟨A, c, hp⟩ := hsc; have HPP := Lib.hid hP; have HB := Lib.hid hb; have HS2 := Lib.hid hp; clear hP hb hp))
    have hsz : w.heap.size + 1 ≤ w2.heap.size := by have := HB.out.size; simpa using this
    have hPlt := HS2.out.lt
    have hPge : w.heap.size + 1 ≤ P := by have := HPP.out; simpa using this
    have HSZ := Lib.hid hsz
    have HPL := Lib.hid hPlt
    have HPG := Lib.hid hPge
    clear hsz hPlt hPge
    go_loopw [] (fun wr => ∃ ds rs Ad Ar cd cr, GAt (w2.heap.size + 1) w2.heap.size wr ds rs Ad Ar cd cr ∧ Below P w2 wr ∧ w2.heap.size + 1 ≤ wr.heap.size ∧ ((ds.length ≤ 400 ∧ rs.length ≤ 400 ∧ ∃ r, PO P l s.size A c r wr ∧ progT s.size [] [] l = progT s.size ds rs r) ∨ (∃ a e, PB P l s.size A c a e 66000 wr ∧ progT s.size [] [] l = .bad a e))) (fun wr => todo P l.length wr)
    case atStart =>
      refine ⟨[], [], none, none, 0, 0, ⟨heap_alloc_new w2 _, World.ownsRow_nil _ _ _ _, [], rfl, World.ownsRow_nil _ _ _ _, fun q hq => by cases hq⟩, (Below.refl P w2).alloc (Nat.le_of_lt HPL.out) _, by simp, .inl ⟨Nat.zero_le _, Nat.zero_le _, l, ⟨0, Nat.zero_le _, rfl, HS2.out.below ((Below.refl _ _).alloc (Nat.le_refl _) _)⟩, rfl⟩⟩
    case round =>
      obtain ⟨ds, rs, Ad, Ar, cd, cr, hga, hbel, hsize, hst⟩ := hrel
      have HGA := Lib.hid hga
      have HBE := Lib.hid hbel
      have HSI := Lib.hid hsize
      have hr0 := (hbel.block w.heap.size (by have := HPG.out; omega)).trans ((HB.out.block w.heap.size (by simp)).trans HR0.out)
      have HRR := Lib.hid hr0
      clear hga hbel hsize hr0
      rcases hst with ⟨hd4, hr4, r, ⟨nx, hnx, rfl, hS⟩, heq⟩ | ⟨a, e, ⟨he0, nx, hnx, hS⟩, heq⟩
      · have HS := Lib.hid hS
        have HEQ := Lib.hid heq
        have HNX := Lib.hid hnx
        have HD4 := Lib.hid hd4
        have HR4 := Lib.hid hr4
        have c0 := hS.c0
        have c1 := hS.c1
        have c4 := hS.c4
        have C4 := Lib.hid c4
        clear hS heq hd4 hr4
        by_cases hlt : nx < l.length
        · have hd : decide ((nx : Int) < (l.length : Int)) = true := decide_eq_true (by omega)
          have HLT := Lib.hid hlt
          go_wp2_with fail
          go_quiet (first | (go_at_call 33; refine Calls.quiet_of_same (pokq true _ (by exact C4.out) rfl)))
          generalize hW : World.drewN _ _ = W3
          have HBW := Lib.hid (show Below wr.heap.size wr W3 by rw [← hW]; exact below_drewN' (Below.refl _ _) _)
          clear hW c0 c1 c4
          have hgw := HGA.out.kept (grown_below HBW.out (some P)) (by have := HPL.out; omega) (by have := HPL.out; omega)
          have HGW := Lib.hid hgw
          clear hgw
          go_wp2_with (go_at_call 52; ((with_reducible refine (clause_calls (B := P) (base := w2.heap.size + 1) (r := l.drop nx) _ (po_mk HNX.out (HS.out.below HBW.out)) HMAX.out HGW.out (by have := HPL.out; omega) (Nat.lt_succ_self _) (by have := HPL.out; omega) (Nat.le_trans HSI.out HBW.out.size) (Nat.le_refl _) (Nat.le_of_lt HPL.out) HD4.out HR4.out).mono ?_); rintro e w4 ⟨rfl, hb4, ds', rs', Ad', Ar', cd', cr', hga4, hgot⟩; have HB4 := Lib.hid hb4; have HGA4 := Lib.hid hga4; have HGOT := Lib.hid hgot; clear hb4 hga4 hgot))
          obtain ⟨x0, r0, hcons⟩ : ∃ x0 r0, l.drop nx = x0 :: r0 := by
            cases hd : l.drop nx with
            | nil => have := congrArg List.length hd; simp at this; omega
            | cons x0 r0 => exact ⟨x0, r0, rfl⟩
          have hstep := progT_step s.size ds rs x0 r0
          have hgot := HGOT.out
          rw [hcons] at hgot
          have heq := HEQ.out
          rw [hcons] at heq
          have hbel4 : Below P w2 w4 := (HBE.out.trans (HBW.out.mono (by have := HBE.out.size; have := HPL.out; omega))).trans HB4.out
          have hsize4 : w2.heap.size + 1 ≤ w4.heap.size := Nat.le_trans HSI.out (Nat.le_trans HBW.out.size HB4.out.size)
          have htodo := todo_ok HS.out
          cases hc : clauseM s.size ds rs (x0 :: r0) with
          | bad a e =>
            rw [hc] at hgot hstep
            go_roundw
            case rel => exact ⟨ds', rs', Ad', Ar', cd', cr', HGA4.out, hbel4, hsize4, .inr ⟨a, e, hgot, by rw [heq, hstep]⟩⟩
            case measure =>
              obtain ⟨he0, nx4, hnx4, hS4⟩ := hgot
              rw [todo_bad hS4 (by omega), htodo]
              have := HNX.out
              omega
          | ok g r1 =>
            rw [hc] at hgot hstep
            obtain ⟨hg, nx4, hnx4, hr4, hS4⟩ := hgot
            subst hg
            have hf := clauseM_few hc HD4.out HR4.out
            go_roundw
            case rel => exact ⟨ds', rs', Ad', Ar', cd', cr', HGA4.out, hbel4, hsize4, .inl ⟨hf.1, hf.2.1, r1, ⟨nx4, hnx4, hr4, hS4⟩, by rw [heq, hstep]⟩⟩
            case measure =>
              rw [todo_ok hS4, htodo]
              have h1 := hf.2.2
              rw [← hcons, ← hr4] at h1
              simp at h1
              omega
        · have hd : decide ((nx : Int) < (l.length : Int)) = false := decide_eq_false (by omega)
          have HQ := Lib.hid (show parseL s.data.toList = .ok (ds, rs) by
            rw [HF.out, HEQ.out, List.drop_eq_nil_of_le (by omega)]
            rfl)
          go_wp2_with fail
          go_quiet (first | (go_at_call 33; refine Calls.quiet_of_same (pokq true _ (by exact C4.out) rfl)))
          generalize hW : World.drewN _ _ = W3
          have HBW := Lib.hid (show Below wr.heap.size wr W3 by rw [← hW]; exact below_drewN' (Below.refl _ _) _)
          have D4 := Lib.hid (cell_below HBW.out C4.out)
          have hga3 := HGA.out.kept (grown_below HBW.out (some P)) (by have := HPL.out; omega) (by have := HPL.out; omega)
          have hrr3 := (HBW.out.block w.heap.size (Array.getElem?_eq_some_iff.1 HRR.out).1).trans HRR.out
          have g0 := cell_of_row _ _ 0 _ _ _ hga3.b; have g1 := cell_of_row _ _ 1 _ _ _ hga3.b
          have z0 := cell_of_row _ _ 0 _ _ _ hrr3; have z1 := cell_of_row _ _ 1 _ _ _ hrr3
          have y0 := frozen_of_row _ _ 0 _ _ hrr3; have y1 := frozen_of_row _ _ 1 _ _ hrr3
          have HGA3 := Lib.hid hga3
          have HRR3 := Lib.hid hrr3
          clear hW c0 c1 c4 hga3 hrr3
          go_wp2_with (go_at_call 33; ((with_reducible refine (pokq true _ D4.out rfl).mono ?_); rintro e w' ⟨rfl, hw⟩; rw [hw]; clear hw))
          have hset := set_at (i := 1) (cs' := #[.slice Ad ds.length cd, .slice Ar rs.length cr]) (set_at (i := 0) (cs' := #[.slice Ad ds.length cd, .slice none 0 0]) HRR3.out (.slice Ad ds.length cd) rfl) (.slice Ar rs.length cr) rfl
          have q0 := cell_of_row _ _ 0 _ _ _ hset
          have q1 := cell_of_row _ _ 1 _ _ _ hset
          have hgS := grown_set (grown_set (World.grownBy.refl W3 (some w.heap.size)) 0 (.slice Ad ds.length cd)) 1 (.slice Ar rs.length cr)
          have hB3 : Below w.heap.size w W3 := (((Below.refl w.heap.size w).alloc (Nat.le_refl _) (.cells #[.slice none 0 0, .slice none 0 0] 36)).trans (HB.out.mono (by simp))).trans ((HBE.out.mono (by have := HPG.out; omega)).trans (HBW.out.mono (by have := HSI.out; have := HSZ.out; omega)))
          refine bodyPost_ret (v := .tuple #[.agg #[.slice Ad ds.length cd, .slice Ar rs.length cr], .int .i64 0, .int .i64 0]) (by simp [results, Tryz.results20, go_sem, q0, q1]) rfl ⟨(hB3.setCell (Nat.le_refl _) _).setCell (Nat.le_refl _) _, ?_⟩
          rw [HQ.out]
          have hlow : ∀ j, some w.heap.size = some j → j < w2.heap.size + 1 := fun j hj => by cases hj; have := HSZ.out; omega
          refine ⟨_, _, rfl, ?_, ?_, HD4.out, HR4.out⟩
          · exact o_base (HGA3.out.d.kept hgS (fun j hj => .inl (hlow j hj))) (by have := HSZ.out; omega)
          · exact (HGA3.out.r.kept hgS (fun j hj => .inl (hlow j hj))).base (by have := HSZ.out; omega)
      · have HS := Lib.hid hS
        have HBB := Lib.hid (show ((e : Int) == 0) = false by simp; omega)
        have HQ := Lib.hid (show parseL s.data.toList = .bad a e by rw [HF.out, heq])
        have c3 := hS.c3
        have c4 := hS.c4
        have C3 := Lib.hid c3
        have C4 := Lib.hid c4
        clear hS heq
        go_wp2_with fail
        go_quiet (first | (go_at_call 33; refine Calls.quiet_of_same (pokq false _ (by exact C4.out) HBB.out)))
        generalize hW : World.drewN _ _ = W3
        have HBW := Lib.hid (show Below wr.heap.size wr W3 by rw [← hW]; exact below_drewN' (Below.refl _ _) _)
        have d3 := cell_below HBW.out C3.out
        have d4 := cell_below HBW.out C4.out
        have D4 := Lib.hid d4
        have hrr3 := (HBW.out.block w.heap.size (Array.getElem?_eq_some_iff.1 HRR.out).1).trans HRR.out
        have z0 := cell_of_row _ _ 0 _ _ _ hrr3; have z1 := cell_of_row _ _ 1 _ _ _ hrr3
        have y0 := frozen_of_row _ _ 0 _ _ hrr3; have y1 := frozen_of_row _ _ 1 _ _ hrr3
        have HRR3 := Lib.hid hrr3
        clear hW c3 c4 hrr3
        go_wp2_with (go_at_call 33; ((with_reducible refine (pokq false _ D4.out HBB.out).mono ?_); rintro e w' ⟨rfl, hw⟩; rw [hw]; clear hw))
        go_region
        go_wp2_with fail
        have hset := set_at (i := 1) (cs' := #[.slice none 0 0, .slice none 0 0]) (set_at (i := 0) (cs' := #[.slice none 0 0, .slice none 0 0]) HRR3.out (.slice none 0 0) rfl) (.slice none 0 0) rfl
        have q0 := cell_of_row _ _ 0 _ _ _ hset
        have q1 := cell_of_row _ _ 1 _ _ _ hset
        have hB3 : Below w.heap.size w W3 := (((Below.refl w.heap.size w).alloc (Nat.le_refl _) (.cells #[.slice none 0 0, .slice none 0 0] 36)).trans (HB.out.mono (by simp))).trans ((HBE.out.mono (by have := HPG.out; omega)).trans (HBW.out.mono (by have := HSI.out; have := HSZ.out; omega)))
        refine bodyPost_ret (v := .tuple #[.agg #[.slice none 0 0, .slice none 0 0], .int .i64 (a : Int), .int .i64 (e : Int)]) (by simp [results, Tryz.results20, go_sem, q0, q1]) rfl ⟨((hB3.setCell (Nat.le_refl _) _).setCell (Nat.le_refl _) _).drew, ?_⟩
        rw [HQ.out]
end Go.Proofs.YtminbdcabacfbaaGreatDoor.V

namespace Go.Proofs.YtminbdcabacfbaaGreatDoor.V
set_option linter.unusedVariables false
set_option linter.unusedSimpArgs false
open Go.RowKit

set_option maxRecDepth 100000 in
set_option maxHeartbeats 4000000 in
theorem prMayD_calls (d : DeclL) (w : World) (hs : DeclSz d) :
    Calls Tryz.prog 44 #[.agg #[.string (bs d.p), .int .i64 d.n]] w fun e w' => e = .returned (.bool (mayD d)) ∧ Below w.heap.size w w' := by
  have hbl := (Below.refl w.heap.size w).alloc (Nat.le_refl _) (.cells #[.string (bs d.p), .int .i64 d.n] 86)
  have hnw := heap_alloc_new w (.cells #[.string (bs d.p), .int .i64 d.n] 86)
  have HB0 := Lib.hid hbl
  have HNW := Lib.hid hnw
  have d0 := cell_of_row _ _ 0 _ _ _ hnw
  have HNM := Lib.hid (fun (W : World) => prName_calls d.p W hs)
  clear hbl hnw hs
  cases hv : nameL d.p with
  | false =>
    have HV := Lib.hid hv
    have HE := Lib.hid (show mayD d = false by unfold mayD; rw [hv]; rfl)
    clear hv
    go_enter Tryz.func44, Tryz.ntmps44
    go_wp2_with (go_at_call 45; ((with_reducible refine (HNM.out _).mono ?_); rw [HV.out]; rintro e w2 ⟨rfl, hb2⟩; have HB2 := Lib.hid (HB0.out.trans (hb2.mono HB0.out.size)); clear hb2))
    go_ret
    exact ⟨by rw [HE.out]; rfl, HB2.out⟩
  | true =>
    have HV := Lib.hid hv
    have HE := Lib.hid (show mayD d = (decide (0 ≤ d.n) && decide (d.n ≤ 6)) by unfold mayD; rw [hv]; rfl)
    clear hv
    go_enter Tryz.func44, Tryz.ntmps44
    go_wp2_with (go_at_call 45; ((with_reducible refine (HNM.out _).mono ?_); rw [HV.out]; rintro e w2 ⟨rfl, hb2⟩; have HB2 := Lib.hid (HB0.out.trans (hb2.mono HB0.out.size)); have e1 := cell_below hb2 (cell_of_row _ _ 1 _ _ _ HNW.out); clear hb2))
    all_goals
      go_ret
      refine ⟨?_, HB2.out⟩
      rw [HE.out]
      first | rfl | (simp_all; done) | (simp_all; omega)
end Go.Proofs.YtminbdcabacfbaaGreatDoor.V

namespace Go.Proofs.YtminbdcabacfbaaGreatDoor.V
set_option linter.unusedVariables false
set_option linter.unusedSimpArgs false
open Go.RowKit

set_option maxRecDepth 100000 in
set_option maxHeartbeats 4000000 in
theorem allCD_calls  (t : DeclL) (r : Nat) (w : World) (hr : w.cell? ⟨r, 0, none⟩ = some (.func (.func 44) #[] #[])) (hs : DeclSz t) :
    Calls Tryz.prog 78 #[.agg #[.string (bs t.p), .int .i64 t.n], .pointer (some ⟨r, 0, none⟩)] w fun e w' => e = .returned (.bool (!(mayD t))) ∧ Below w.heap.size w w' := by
  have hbl := (Below.refl w.heap.size w).alloc (Nat.le_refl _) (.cells #[.string (bs t.p), .int .i64 t.n] 86)
  have hnw := heap_alloc_new w (.cells #[.string (bs t.p), .int .i64 t.n] 86)
  have HB0 := Lib.hid hbl
  have hr1 := cell_below hbl hr

  have d0 := cell_of_row _ _ 0 _ _ _ hnw
  have d1 := cell_of_row _ _ 1 _ _ _ hnw
  have HF := Lib.hid (fun (W : World) => prMayD_calls t W hs)
  clear hbl hnw hr hs
  go_enter Tryz.func78, Tryz.ntmps78
  go_wp2_with (go_at_call 44; ((with_reducible refine (HF.out _ ).mono ?_); rintro e w2 ⟨rfl, hb2⟩; have HB2 := Lib.hid (HB0.out.trans (hb2.mono HB0.out.size)); clear hb2))
  go_ret
  exact ⟨rfl, HB2.out⟩

set_option maxRecDepth 100000 in
set_option maxHeartbeats 8000000 in
theorem allID_calls (A : Option Addr) (n c r : Nat) (L : List DeclL) (w : World) (hr : w.cell? ⟨r, 0, none⟩ = some (.func (.func 44) #[] #[])) (hn : n = L.length) (hT : DeclsRd w A L) (hok : ∀ t ∈ L, DeclSz t) (hn2 : n < 1000000000) :
    Calls Tryz.prog 108 #[.slice A n c, .func (.func 78) #[] #[.pointer (some ⟨r, 0, none⟩)]] w fun e w' => ∃ k : Int, e = .returned (.int .i64 k) ∧ decide (0 ≤ k) = !(L.all mayD) ∧ Below w.heap.size w w' := by
  have HT := Lib.hid hT
  have HOK := Lib.hid hok
  have HN := Lib.hid hn
  have HR := Lib.hid hr
  clear hT hok hn hr
  go_enter Tryz.func108, Tryz.ntmps108
  go_wp2_with fail
  go_loopw [8] (fun i wr => ∃ k : Nat, k ≤ n ∧ i = .int .i64 (k : Int) ∧ (L.take k).all mayD = true ∧ Below w.heap.size w wr) (fun i _ => n + 1 - (intOf i).toNat)
  case atStart => exact ⟨0, Nat.zero_le _, rfl, rfl, Below.refl _ _⟩
  case round =>
    obtain ⟨k, hk, rfl, hall, hb⟩ := hrel
    have HB := Lib.hid hb
    by_cases hlt : k < n
    · have hd : decide ((k : Int) < (n : Int)) = true := decide_eq_true (by omega)
      obtain ⟨t, hx⟩ : ∃ t, L[k]? = some t := ⟨_, List.getElem?_eq_getElem (by rw [← HN.out]; exact hlt)⟩
      obtain ⟨a, rfl, hh⟩ := HT.out k t hx
      have hh2 := hh.below hb
      have hgt := HOK.out t (List.mem_of_getElem? hx)
      have hsn : (L.take (k + 1)).all mayD = mayD t := by
        rw [List.take_add_one, List.all_append, hall, hx]
        simp
      have hmt : t ∈ L := List.mem_of_getElem? hx
      have HRr := Lib.hid (cell_below hb HR.out)
      have HC := Lib.hid (fun (W : World) (hr : W.cell? ⟨r, 0, none⟩ = some (.func (.func 44) #[] #[])) => allCD_calls t r W hr hgt)
      have d0 := hh2.c0
      have d1 := hh2.c1
      cases hv : mayD t with
      | true =>
        rw [hv] at hsn
        have HV := Lib.hid hv
        have HSN := Lib.hid hsn
        clear hb hh hh2 hgt hx hall hv hsn hmt
        go_wp2_with (go_at_call 78; ((with_reducible refine (HC.out _ HRr.out).mono ?_); rw [HV.out]; rintro e w2 ⟨rfl, hb2⟩; have HB2 := Lib.hid (HB.out.trans (hb2.mono HB.out.size)); clear hb2))
        go_roundw
        case rel => exact ⟨k + 1, hlt, by simp, HSN.out, HB2.out⟩
        case measure => simp [intOf]; omega
      | false =>
        have HV := Lib.hid hv
        have HALL := Lib.hid (show L.all mayD = false by
          rw [List.all_eq_false]
          exact ⟨t, hmt, by rw [hv]; simp⟩)
        clear hb hh hh2 hgt hx hall hv hsn hmt
        go_wp2_with (go_at_call 78; ((with_reducible refine (HC.out _ HRr.out).mono ?_); rw [HV.out]; rintro e w2 ⟨rfl, hb2⟩; have HB2 := Lib.hid (HB.out.trans (hb2.mono HB.out.size)); clear hb2))
        go_ret
        exact ⟨(k : Int), rfl, by rw [HALL.out]; exact decide_eq_true (by omega), HB2.out⟩
    · have hkn : k = n := by omega
      subst hkn
      have hd : decide ((k : Int) < (k : Int)) = false := decide_eq_false (by omega)
      have htk : L.take k = L := List.take_of_length_le (by rw [← HN.out]; exact Nat.le_refl _)
      rw [htk] at hall
      have HALL := Lib.hid hall
      clear hb hlt hk hall htk
      go_wp2_with fail
      go_ret
      exact ⟨-1, rfl, by rw [HALL.out]; decide, HB.out⟩
set_option maxRecDepth 100000 in
set_option maxHeartbeats 4000000 in
theorem allFD_calls (A : Option Addr) (n c r : Nat) (L : List DeclL) (w : World) (hr : w.cell? ⟨r, 0, none⟩ = some (.func (.func 44) #[] #[])) (hn : n = L.length) (hT : DeclsRd w A L) (hok : ∀ t ∈ L, DeclSz t) (hn2 : n < 1000000000) :
    Calls Tryz.prog 77 #[.slice A n c, .func (.func 78) #[] #[.pointer (some ⟨r, 0, none⟩)]] w fun e w' => e = .returned (.bool (!(L.all mayD))) ∧ Below w.heap.size w w' := by
  have HI := Lib.hid (allID_calls A n c r L w hr hn hT hok hn2)
  clear hr hn hT hok
  go_enter Tryz.func77, Tryz.ntmps77
  go_wp2_with (go_at_call 108; ((with_reducible refine HI.out.mono ?_); rintro e w2 ⟨k, rfl, hk, hb2⟩; have HB2 := Lib.hid hb2; have HK := Lib.hid hk; clear hb2 hk))
  go_ret
  exact ⟨by rw [← HK.out]; rfl, HB2.out⟩
set_option maxRecDepth 100000 in
set_option maxHeartbeats 4000000 in
theorem allD_calls (A : Option Addr) (n c : Nat) (L : List DeclL) (w : World) (hn : n = L.length) (hT : DeclsRd w A L) (hok : ∀ t ∈ L, DeclSz t) (hn2 : n < 1000000000) :
    Calls Tryz.prog 46 #[.slice A n c, .func (.func 44) #[] #[]] w fun e w' => e = .returned (.bool (L.all mayD)) ∧ Below w.heap.size w w' := by
  have hbl := (Below.refl w.heap.size w).alloc (Nat.le_refl _) (.cells #[.func (.func 44) #[] #[]] 95)
  have hnw := heap_alloc_new w (.cells #[.func (.func 44) #[] #[]] 95)
  have HB0 := Lib.hid hbl
  have HI := Lib.hid (allFD_calls A n c w.heap.size L _ (cell_of_row _ _ 0 _ _ _ hnw) hn (hT.below hbl) hok hn2)
  clear hbl hnw hn hT hok
  go_enter Tryz.func46, Tryz.ntmps46
  go_wp2_with (go_at_call 77; ((with_reducible refine HI.out.mono ?_); rintro e w2 ⟨rfl, hb2⟩; have HB2 := Lib.hid (HB0.out.trans (hb2.mono HB0.out.size)); clear hb2))
  go_ret
  refine ⟨?_, HB2.out⟩
  simp
end Go.Proofs.YtminbdcabacfbaaGreatDoor.V
