/- New, Find, At and Len of package symtab's Table, by the list that the table is; and the document's example. No condition but that values are values. -/
import Derived.Test.YtfdjfkmgablmoaaPut
namespace Go.Proofs.Ytfdjfkmgablmoaa.Tab
open Go.RowKit Go.Maps Go.Proofs.YtfdjfkmgablmoaaW.PrintWords Go.Proofs.Ytfdjfkmgablmoaa.PSymtabPlays

def NewPost (w0 w : World) (base : Nat) (e : Ending) (w' : World) : Prop :=
  ∃ tb, e = .returned (.pointer (some ⟨tb, 0, none⟩)) ∧ IsTab w' base (fun k => w.heap.size ≤ k) tb [] ∧ Below base w0 w' ∧ Below w.heap.size w w'

set_option maxHeartbeats 4000000 in
set_option maxRecDepth 100000 in
theorem new_any (w0 : World) (base : Nat) (w : World) (hB : Below base w0 w) (hbase : base ≤ w.heap.size) :
    Calls Try.prog 9 #[] w (NewPost w0 w base) := by
  have hmm := @run_makeMap Try.prog
  have HB := Aside0.mk hB
  clear hB
  go_enter Try.func9, Try.ntmps9
  go_wp2
  go_ret
  refine ⟨w.heap.size + 1, rfl, ?_, ?_, ?_⟩
  · refine ⟨w.heap.size, .slice none 0 0, 0, .map [], ?_, ⟨by omega, by simp⟩, ⟨hbase, Nat.le_refl _⟩, ?_, by simp, dok_nil, ?_, by simp⟩
    · have := blk_new (w.alloc (.map #[] 0)) (.cells #[.map (some w.heap.size), .slice none 0 0] 47 (0, 0))
      simpa using this
    · exact Owns.alloc (World.ownsMap_made w _ _ _) _
    · exact Kd.R_nil _ _ _ _ _
  · exact (HB.out.alloc hbase _).alloc (by simp; omega) _
  · exact ((Below.refl _ w).alloc (Nat.le_refl _) _).alloc (by simp) _

theorem len_any (base : Nat) (ok : Nat → Prop) (tb : Nat) (L : List S29) (w : World) (hT : IsTab w base ok tb L) :
    Calls Try.prog 11 #[.pointer (some ⟨tb, 0, none⟩)] w fun e w' => e = .returned (.int .i64 (L.length : Nat)) ∧ w = w' := by
  obtain ⟨bm, v, n, D, h1, h2, h3, h4, h5, h6, h7, h8⟩ := hT
  obtain ⟨A, cp, rfl, _, _⟩ := Kd.R_reads h7
  have c1 : w.cell? ⟨tb, 1, none⟩ = some (.slice A L.length cp) := (blk_cell h1 1).trans rfl
  clear h1 h4 h6 h7 h8
  go_enter Try.func11, Try.ntmps11
  go_wp2
  go_ret
  exact ⟨rfl, rfl⟩
theorem len_nil (w : World) : Calls Try.prog 11 #[.pointer none] w fun e w' => e = .returned (.int .i64 0) ∧ w = w' := by
  go_enter Try.func11, Try.ntmps11
  go_wp2
  go_ret
  exact ⟨rfl, rfl⟩
theorem put_nil (x : S29) (w : World) : Calls Try.prog 10 #[.pointer none, .agg #[.bool x.f0, .string x.f1, .int .i64 x.f2]] w fun e w' => e = .returned (.int .i64 0) ∧ Below w.heap.size w w' := by
  go_enter Try.func10, Try.ntmps10
  go_wp2
  go_ret
  exact ⟨rfl, (Below.refl _ w).alloc (Nat.le_refl _) _⟩
theorem find_nil (x : S29) (w : World) : Calls Try.prog 14 #[.pointer none, .agg #[.bool x.f0, .string x.f1, .int .i64 x.f2]] w fun e w' => e = .returned (.tuple #[.int .i64 0, .bool false]) ∧ Below w.heap.size w w' := by
  go_enter Try.func14, Try.ntmps14
  go_wp2
  go_ret2
  exact ⟨rfl, (Below.refl _ w).alloc (Nat.le_refl _) _⟩

def idx (L : List S29) (x : S29) : Nat := if norm x ∈ L then L.idxOf (norm x) else 0
set_option maxHeartbeats 4000000 in
set_option maxRecDepth 100000 in
theorem find_any (base : Nat) (ok : Nat → Prop) (tb : Nat) (L : List S29) (x : S29) (w : World) (hT : IsTab w base ok tb L) (hx : Ok x) :
    Calls Try.prog 14 #[.pointer (some ⟨tb, 0, none⟩), .agg #[.bool x.f0, .string x.f1, .int .i64 x.f2]] w fun e w' => e = .returned (.tuple #[.int .i64 (idx L x : Nat), .bool (decide (norm x ∈ L))]) ∧ Below w.heap.size w w' := by
  obtain ⟨bm, v, n, D, h1, h2, h3, h4, h5, h6, h7, h8⟩ := hT
  obtain ⟨kl, hkl⟩ : ∃ kl, IsKl (norm x) kl := keyOf_kv hx.norm
  have HD := Aside0.mk (h6.2 _ _ hkl)
  have c0 : w.cell? ⟨tb, 0, none⟩ = some (.map (some bm)) := (blk_cell h1 0).trans rfl
  have hO := (h4.alloc (.cells #[.bool x.f0, .string x.f1, .int .i64 x.f2] 29)).drew
  have c1 := pw_cell_below (below_drew (below_alloc (Below.refl w.heap.size w) (.cells #[.bool x.f0, .string x.f1, .int .i64 x.f2] 29))) c0
  clear h1 h4 h5 h6 h7 h8
  go_enter Try.func14, Try.ntmps14
  go_wp2_with fail
  go_region_held3 (fun w' => (w'.cell? ⟨w.heap.size, 0, none⟩ = some (.bool x.f0) ∧ w'.cell? ⟨w.heap.size, 1, none⟩ = some (.string x.f1) ∧ w'.cell? ⟨w.heap.size, 2, none⟩ = some (.int .i64 x.f2)) ∧ Below w.heap.size w w')
    (first | (go_split_ands; exact ⟨⟨by assumption, by assumption, by assumption⟩, by assumption⟩) | (go_split_ands; exact ⟨⟨pw_cell_below hb (by assumption), pw_cell_below hb (by assumption), pw_cell_below hb (by assumption)⟩, below_step (by assumption) hb⟩) | (refine ⟨⟨?_, ?_, ?_⟩, below_drew (below_alloc (Below.refl _ _) _)⟩ <;> go_simp))
    (first
      | (go_at_call 17; refine (number_any tb bm n D x _ c1 hO kl hkl).mono ?_; rintro e w' ⟨c, rfl, hc, hb⟩))
  go_wp2
  go_ret2
  go_split_ands
  refine ⟨?_, by assumption⟩
  obtain ⟨g1, g2⟩ := HD.out
  have hc' : c = ((idx L x : Nat) : Int) := by
    unfold idx
    split
    · rename_i hm
      rw [hc] at g2
      have := g2 hm
      injection this with this
      injection this
    · rename_i hm
      have hf : Maps.has D kl = false := by rw [g1]; simpa using hm
      rw [atKey_of_not_has hf] at hc
      injection hc with hc
      injection hc with _ hc
      exact hc.symm
  rw [← hc', ← g1]
  rfl

def AtPost (L : List S29) (n : Int) (w : World) (e : Ending) (w' : World) : Prop :=
  (∃ x : S29, e = .returned (.tuple #[.agg #[.bool x.f0, .string x.f1, .int .i64 x.f2], .bool (decide (0 ≤ n ∧ n < L.length))]) ∧ x = (if 0 ≤ n ∧ n < L.length then rd_T29 L n else z29)) ∧ Below w.heap.size w w'

set_option maxHeartbeats 4000000 in
set_option maxRecDepth 100000 in
theorem at_nil (n : Int) (w : World) : Calls Try.prog 12 #[.pointer none, .int .i64 n] w fun e w' => e = .returned (.tuple #[.agg #[.bool false, .string ⟨#[]⟩, .int .i64 0], .bool false]) ∧ Below w.heap.size w w' := by
  go_enter Try.func12, Try.ntmps12
  go_wp2
  exact bodyPost_ret (v := .tuple #[.agg #[.bool false, .string ⟨#[]⟩, .int .i64 0], .bool false]) (by simp [results, Try.results12, go_sem]) rfl ⟨rfl, by repeat (first | exact Below.refl _ _ | apply below_alloc | refine below_set ?_ (Nat.le_refl _))⟩

set_option maxHeartbeats 4000000 in
set_option maxRecDepth 100000 in
theorem at_in (base : Nat) (ok : Nat → Prop) (tb : Nat) (L : List S29) (n : Int) (w : World) (hT : IsTab w base ok tb L) (h0 : 0 ≤ n) (h1 : n < L.length) :
    Calls Try.prog 12 #[.pointer (some ⟨tb, 0, none⟩), .int .i64 n] w fun e w' => e = .returned (.tuple #[.agg #[.bool (rd_T29 L n).f0, .string (rd_T29 L n).f1, .int .i64 (rd_T29 L n).f2], .bool true]) ∧ Below w.heap.size w w' := by
  obtain ⟨bm, v, n', D, g1, g2, g3, g4, g5, g6, g7, g8⟩ := hT
  obtain ⟨A, cp, rfl, hcp, hR⟩ := Kd.R_reads g7
  have c1 : w.cell? ⟨tb, 1, none⟩ = some (.slice A L.length cp) := (blk_cell g1 1).trans rfl
  obtain ⟨ad, rfl, a0, a1, a2⟩ := at_T29 hR n h0 h1
  have d1 := fun o => pw_cell_below (below_alloc (Below.refl w.heap.size w) o) c1
  have e0 := fun o => pw_cell_below (below_alloc (Below.refl w.heap.size w) o) a0
  have e1 := fun o => pw_cell_below (below_alloc (Below.refl w.heap.size w) o) a1
  have e2 := fun o => pw_cell_below (below_alloc (Below.refl w.heap.size w) o) a2
  clear g1 g4 g5 g6 g7 g8 hR
  go_enter Try.func12, Try.ntmps12
  go_wp2
  exact bodyPost_ret (v := .tuple #[.agg #[.bool (rd_T29 L n).f0, .string (rd_T29 L n).f1, .int .i64 (rd_T29 L n).f2], .bool true]) (by simp [results, Try.results12, go_sem]) rfl ⟨rfl, by repeat (first | exact Below.refl _ _ | apply below_alloc | refine below_set ?_ (Nat.le_refl _))⟩

set_option maxHeartbeats 4000000 in
set_option maxRecDepth 100000 in
theorem at_out (base : Nat) (ok : Nat → Prop) (tb : Nat) (L : List S29) (n : Int) (w : World) (hT : IsTab w base ok tb L) (h0 : n < 0 ∨ (L.length : Int) ≤ n) :
    Calls Try.prog 12 #[.pointer (some ⟨tb, 0, none⟩), .int .i64 n] w fun e w' => e = .returned (.tuple #[.agg #[.bool false, .string ⟨#[]⟩, .int .i64 0], .bool false]) ∧ Below w.heap.size w w' := by
  obtain ⟨bm, v, n', D, g1, g2, g3, g4, g5, g6, g7, g8⟩ := hT
  obtain ⟨A, cp, rfl, hcp, hR⟩ := Kd.R_reads g7
  have c1 : w.cell? ⟨tb, 1, none⟩ = some (.slice A L.length cp) := (blk_cell g1 1).trans rfl
  have d1 := fun o => pw_cell_below (below_alloc (Below.refl w.heap.size w) o) c1
  clear g1 g4 g5 g6 g7 g8 hR
  by_cases hn : n < 0
  · clear h0
    go_enter Try.func12, Try.ntmps12
    go_wp2
    exact bodyPost_ret (v := .tuple #[.agg #[.bool false, .string ⟨#[]⟩, .int .i64 0], .bool false]) (by simp [results, Try.results12, go_sem]) rfl ⟨rfl, by repeat (first | exact Below.refl _ _ | apply below_alloc | refine below_set ?_ (Nat.le_refl _))⟩
  · have hge : (L.length : Int) ≤ n := h0.resolve_left hn
    clear h0
    go_enter Try.func12, Try.ntmps12
    go_wp2
    exact bodyPost_ret (v := .tuple #[.agg #[.bool false, .string ⟨#[]⟩, .int .i64 0], .bool false]) (by simp [results, Try.results12, go_sem]) rfl ⟨rfl, by repeat (first | exact Below.refl _ _ | apply below_alloc | refine below_set ?_ (Nat.le_refl _))⟩

def atL (L : List S29) (n : Int) : S29 := if 0 ≤ n ∧ n < L.length then rd_T29 L n else z29
theorem at_any (base : Nat) (ok : Nat → Prop) (tb : Nat) (L : List S29) (n : Int) (w : World) (hT : IsTab w base ok tb L) :
    Calls Try.prog 12 #[.pointer (some ⟨tb, 0, none⟩), .int .i64 n] w fun e w' => e = .returned (.tuple #[.agg #[.bool (atL L n).f0, .string (atL L n).f1, .int .i64 (atL L n).f2], .bool (decide (0 ≤ n ∧ n < L.length))]) ∧ Below w.heap.size w w' := by
  by_cases h : 0 ≤ n ∧ n < L.length
  · have := at_in base ok tb L n w hT h.1 h.2
    rw [decide_eq_true h]
    unfold atL
    rw [if_pos h]
    exact this
  · have := at_out base ok tb L n w hT (by omega)
    rw [decide_eq_false h]
    unfold atL
    rw [if_neg h]
    exact this

def ShownPost (w : World) (e : Ending) (w' : World) : Prop := e = .returned (.bool true) ∧ Below w.heap.size w w'
def xa : S29 := ⟨true, ⟨#[97]⟩, 0⟩
def xb : S29 := ⟨true, ⟨#[98]⟩, 0⟩
theorem ok_a : Ok xa := ⟨by decide, by decide⟩
theorem ok_b : Ok xb := ⟨by decide, by decide⟩

/-- The table as it stands, its blocks told. -/
theorem put_bound (w0 : World) (base : Nat) (ok : Nat → Prop) (tb : Nat) (L : List S29) (x : S29) (w : World) (hT : IsTab w base ok tb L) (hB : Below base w0 w) (hbase : base ≤ w.heap.size) (hx : Ok x) (hl : L.length ≤ 1048576) (b : Bool) (s : ByteArray) (i : Int) (e0 : b = x.f0) (e1 : s = x.f1) (e2 : i = x.f2) :
    Calls Try.prog 10 #[.pointer (some ⟨tb, 0, none⟩), .agg #[.bool b, .string s, .int .i64 i]] w (PutPost w0 w base ok tb L x) := by
  subst e0 e1 e2
  exact put_any w0 base ok tb L x w hT hB hbase hx hl

set_option maxHeartbeats 4000000 in
set_option maxRecDepth 100000 in
theorem shown_any (w : World) : Calls Try.prog 8 #[] w (ShownPost w) := by
  have e1 : putL [] xa = [xa] := by decide
  have e2 : putL [xa] xb = [xa, xb] := by decide
  have e3 : putL [xa, xb] xa = [xa, xb] := by decide
  have i1 : ([] : List S29).idxOf (norm xa) = 0 := by decide
  have i2 : ([xa] : List S29).idxOf (norm xb) = 1 := by decide
  have i3 : ([xa, xb] : List S29).idxOf (norm xa) = 0 := by decide
  have HE := Aside0.mk (And.intro e1 (And.intro e2 (And.intro e3 (And.intro i1 (And.intro i2 i3)))))
  clear e1 e2 e3 i1 i2 i3
  go_enter Try.func8, Try.ntmps8
  go_wp2_with fail
  refine (new_any w w.heap.size _ (Below.refl _ _) (Nat.le_refl _)).mono ?_
  rintro e w1 ⟨tb, rfl, hT, hB, hB'⟩
  have HT := Aside0.mk hT.bound
  have HB := Aside0.mk hB
  have hz1 := hB.size
  clear hT hB hB'
  go_wp2_with fail
  obtain ⟨wb, hwb⟩ : ∃ wb, wb = ((w1.alloc (Obj.cells #[Value.bool true, Value.string { data := #[97] }, Value.int IntKind.i64 0] 29)).alloc (Obj.cells #[Value.bool true, Value.string { data := #[98] }, Value.int IntKind.i64 0] 29)) := ⟨_, rfl⟩
  have ba : wb.heap[w1.heap.size]? = some (.cells #[.bool true, .string ⟨#[97]⟩, .int .i64 0] 29 (0, 0)) := by rw [hwb]; exact blk_alloc (blk_new _ _) _
  have bb : wb.heap[w1.heap.size + 1]? = some (.cells #[.bool true, .string ⟨#[98]⟩, .int .i64 0] 29 (0, 0)) := by rw [hwb]; have := blk_new (w1.alloc (Obj.cells #[Value.bool true, Value.string { data := #[97] }, Value.int IntKind.i64 0] 29)) (.cells #[.bool true, .string ⟨#[98]⟩, .int .i64 0] 29 (0, 0)); simpa using this
  have hbb : Below w1.heap.size w1 wb := by rw [hwb]; exact below_alloc (below_alloc (Below.refl _ _) _) _
  have HTb := Aside0.mk (HT.out.below hbb)
  have HBb := Aside0.mk (below_then HB.out hz1 hbb)
  have hzb := hbb.size
  rw [← hwb]
  clear hwb hbb
  refine (put_bound w w.heap.size _ tb [] xa _ HTb.out HBb.out (by omega) ok_a (by simp) _ _ _ rfl rfl rfl).mono ?_
  rintro e w2 ⟨rfl, hT2, hB2, hK2, hS2⟩
  rw [HE.out.1] at hT2
  rw [HE.out.2.2.2.1]
  have ba2 := blk_kept ba hS2 (fun h => by omega)
  have bb2 := blk_kept bb hS2 (fun h => by omega)
  have HT2 := Aside0.mk (hT2.mono (ok' := fun k => k ≠ w1.heap.size ∧ k ≠ w1.heap.size + 1) (fun k h => by rcases h with h | h; (omega); (have := blk_lt ba; have := blk_lt bb; omega)))
  have HB2 := Aside0.mk hB2
  have hz2 := hB2.size
  have b0 : w2.cell? ⟨w1.heap.size + 1, 0, none⟩ = some (.bool true) := (blk_cell bb2 0).trans rfl
  have b1 : w2.cell? ⟨w1.heap.size + 1, 1, none⟩ = some (.string ⟨#[98]⟩) := (blk_cell bb2 1).trans rfl
  have b2 : w2.cell? ⟨w1.heap.size + 1, 2, none⟩ = some (.int .i64 0) := (blk_cell bb2 2).trans rfl
  have HA2 := Aside0.mk ba2
  clear hT2 hB2 hK2 hS2 ba bb ba2 bb2
  go_wp2_with fail
  refine (put_bound w w.heap.size _ tb [xa] xb _ HT2.out HB2.out (by omega) ok_b (by simp) _ _ _ rfl rfl rfl).mono ?_
  rintro e w3 ⟨rfl, hT3, hB3, hK3, hS3⟩
  rw [HE.out.2.1] at hT3
  rw [HE.out.2.2.2.2.1]
  have ba3 := blk_kept HA2.out hS3 (fun h => h.1 rfl)
  have b0 : w3.cell? ⟨w1.heap.size, 0, none⟩ = some (.bool true) := (blk_cell ba3 0).trans rfl
  have b1 : w3.cell? ⟨w1.heap.size, 1, none⟩ = some (.string ⟨#[97]⟩) := (blk_cell ba3 1).trans rfl
  have b2 : w3.cell? ⟨w1.heap.size, 2, none⟩ = some (.int .i64 0) := (blk_cell ba3 2).trans rfl
  have HT3 := Aside0.mk hT3
  have HB3 := Aside0.mk hB3
  have hz3 := hB3.size
  clear hT3 hB3 hK3 hS3 ba3
  go_wp2_with fail
  refine (put_bound w w.heap.size _ tb [xa, xb] xa _ HT3.out HB3.out (by omega) ok_a (by simp) _ _ _ rfl rfl rfl).mono ?_
  rintro e w4 ⟨rfl, hT4, hB4, hK4, hS4⟩
  rw [HE.out.2.2.1] at hT4
  rw [HE.out.2.2.2.2.2]
  have HT4 := Aside0.mk hT4
  have HB4 := Aside0.mk hB4
  clear hT4 hB4 hK4 hS4
  go_wp2_with fail
  refine (len_any w.heap.size _ tb [xa, xb] _ HT4.out).mono ?_
  rintro e w' ⟨rfl, rfl⟩
  go_wp2
  go_ret
  exact ⟨rfl, HB4.out⟩
end Go.Proofs.Ytfdjfkmgablmoaa.Tab
