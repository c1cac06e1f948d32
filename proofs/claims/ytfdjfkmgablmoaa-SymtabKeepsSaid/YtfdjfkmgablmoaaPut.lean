/- What each method of package symtab's Table does to the list that the table is. No condition but that values are values and the list is short. -/
import Derived.Test.YtfdjfkmgablmoaaTab
import Derived.Deep.RegionLaw
namespace Go.Proofs.Ytfdjfkmgablmoaa.Tab
open Go.RowKit Go.Maps Go.Proofs.YtfdjfkmgablmoaaW.PrintWords Go.Proofs.Ytfdjfkmgablmoaa.PSymtabPlays

instance : DecidableEq S29 := fun a b => decidable_of_iff (a.f0 = b.f0 ∧ a.f1 = b.f1 ∧ a.f2 = b.f2) (by
  obtain ⟨_, _, _⟩ := a
  obtain ⟨_, _, _⟩ := b
  simp)

/-- What the map says of the list. -/
def Dok (D : DataW Unit) (L : List S29) : Prop := IsMap D ∧ ∀ x kl, IsKl x kl → Maps.has D kl = decide (x ∈ L) ∧ (x ∈ L → D.atKey kl (.lit (.int .i64 0)) = .lit (.int .i64 (L.idxOf x : Nat)))

theorem dok_nil : Dok (.map []) [] := ⟨isMap_empty, fun x kl _ => ⟨by simp [Maps.has], fun h => by cases h⟩⟩

theorem dok_snoc {D : DataW Unit} {L : List S29} (h : Dok D L) {x : S29} {kl : Lit} (hx : x ∉ L) (hk : IsKl x kl) : Dok (D.put kl (.lit (.int .i64 (L.length : Nat)))) (L ++ [x]) := by
  refine ⟨h.1.put _ _, fun y ky hy => ?_⟩
  by_cases e : y = x
  · subst e
    have : ky = kl := Option.some.inj (hy.symm.trans hk)
    subst this
    refine ⟨by rw [has_put_same h.1 (law29.key hk)]; simp, fun _ => ?_⟩
    rw [atKey_put_same h.1 (law29.key hk), List.idxOf_append, if_neg hx]
    simp
  · have hne : ky ≠ kl := by
      rintro rfl
      exact e (kv_inj (law29.inj hy hk))
    obtain ⟨h1, h2⟩ := h.2 y ky hy
    refine ⟨by rw [has_put_other hne, h1]; simp [e], fun hm => ?_⟩
    have hm' : y ∈ L := by simpa [e] using hm
    rw [atKey_put_other hne, h2 hm', List.idxOf_append, if_pos hm']

/-- Blocks that are no part of a table lie as they lay. -/
def KeepT (w w' : World) : Prop := w.heap.size ≤ w'.heap.size ∧ ∀ (k : Nat) (cells : Array Value) (q : Nat), w.heap[k]? = some (Obj.cells cells q (0, 0)) → q ≠ 29 → q ≠ 47 → w'.heap[k]? = w.heap[k]?
theorem KeepT.refl (w : World) : KeepT w w := ⟨Nat.le_refl _, fun _ _ _ _ _ _ => rfl⟩
theorem KeepT.trans {a b c : World} (h : KeepT a b) (h' : KeepT b c) : KeepT a c :=
  ⟨Nat.le_trans h.1 h'.1, fun k cells q hk h1 h2 => by
    have e := h.2 k cells q hk h1 h2
    rw [h'.2 k cells q (e.trans hk) h1 h2, e]⟩
theorem KeepT.below {w w' : World} (h : Below w.heap.size w w') : KeepT w w' := ⟨h.size, fun k _ _ hk _ _ => h.block k (blk_lt hk)⟩

/-- Block tb is a table, and holds the values L. -/
def IsTab (w : World) (base : Nat) (ok : Nat → Prop) (tb : Nat) (L : List S29) : Prop :=
  ∃ bm v n D, w.heap[tb]? = some (.cells #[.map (some bm), v] 47 (0, 0)) ∧ (base ≤ tb ∧ ok tb) ∧ (base ≤ bm ∧ ok bm) ∧ Owns w bm n D ∧ n ≤ L.length ∧ Dok D L ∧ Kd.R k29 29 w base ok v L ∧ ∀ x ∈ L, Ok x

theorem IsTab.below {w w' : World} {base tb : Nat} {ok : Nat → Prop} {L : List S29} (h : IsTab w base ok tb L) (hb : Below w.heap.size w w') : IsTab w' base ok tb L := by
  obtain ⟨bm, v, n, D, h1, h2, h3, h4, h5, h6, h7, h8⟩ := h
  exact ⟨bm, v, n, D, blk_below h1 hb, h2, h3, h4.below hb, h5, h6, Kd.R_below h7 hb, h8⟩
theorem IsTab.mono {w : World} {base tb : Nat} {ok ok' : Nat → Prop} {L : List S29} (h : IsTab w base ok tb L) (hok : ∀ k, ok k → ok' k) : IsTab w base ok' tb L := by
  obtain ⟨bm, v, n, D, h1, h2, h3, h4, h5, h6, h7, h8⟩ := h
  exact ⟨bm, v, n, D, h1, ⟨h2.1, hok _ h2.2⟩, ⟨h3.1, hok _ h3.2⟩, h4, h5, h6, Kd.R_mono h7 hok, h8⟩
/-- What the table's blocks are: old ones, from base on, of the table's types. -/
theorem IsTab.bound {w : World} {base tb : Nat} {ok : Nat → Prop} {L : List S29} (h : IsTab w base ok tb L) :
    IsTab w base (fun k => ok k ∧ base ≤ k ∧ k < w.heap.size ∧ ∀ cells q, w.heap[k]? = some (Obj.cells cells q (0, 0)) → q = 29 ∨ q = 47) tb L := by
  obtain ⟨bm, v, n, D, h1, h2, h3, h4, h5, h6, h7, h8⟩ := h
  refine ⟨bm, v, n, D, h1, ⟨h2.1, h2.2, h2.1, blk_lt h1, fun cells q hc => ?_⟩, ⟨h3.1, h3.2, h3.1, World.ownsMap.lt h4, fun cells q hc => ?_⟩, h4, h5, h6, Kd.R_mono (Kd.R_bound h7) (fun k hk => ⟨hk.1, hk.2.1, hk.2.2.1, fun cells q hc => ?_⟩), h8⟩
  · rw [h1] at hc
    cases hc
    exact .inr rfl
  · obtain ⟨es, ck, hh, _⟩ := h4
    rw [hc] at hh
    cases hh
  · obtain ⟨_, _, _, q', hq, cells', hc'⟩ := hk
    rw [hc'] at hc
    cases hc
    have : q = 29 := by simpa [k29, Kd.iso, Kd.pair, Kd.bool, Kd.string, Kd.int, Kd.scalar] using hq
    exact .inl this
theorem IsTab.kept {w w' : World} {base tb : Nat} {ok S : Nat → Prop} {L : List S29} (h : IsTab w base ok tb L) (hk : Kept w w' S) (hne : ∀ k, ok k → ¬ S k) : IsTab w' base ok tb L := by
  obtain ⟨bm, v, n, D, h1, h2, h3, h4, h5, h6, h7, h8⟩ := h
  refine ⟨bm, v, n, D, blk_kept h1 hk (hne _ h2.2), h2, h3, ?_, h5, h6, Kd.R_kept h7 hk hne, h8⟩
  obtain ⟨es, ck, hh, r⟩ := h4
  exact ⟨es, ck, blk_kept hh hk (hne _ h3.2), r⟩

def putL (L : List S29) (x : S29) : List S29 := if norm x ∈ L then L else L ++ [norm x]

def PutPost (w0 w : World) (base : Nat) (ok : Nat → Prop) (tb : Nat) (L : List S29) (x : S29) (e : Ending) (w' : World) : Prop :=
  e = .returned (.int .i64 ((L.idxOf (norm x) : Nat) : Int)) ∧ IsTab w' base (fun k => ok k ∨ w.heap.size ≤ k) tb (putL L x) ∧ Below base w0 w' ∧ KeepT w w' ∧ Kept w w' ok

set_option maxHeartbeats 4000000 in
set_option maxRecDepth 100000 in
theorem put_there (base : Nat) (ok : Nat → Prop) (tb : Nat) (L : List S29) (x : S29) (w : World) (hT : IsTab w base ok tb L) (hx : Ok x) (hm : norm x ∈ L) :
    Calls Try.prog 10 #[.pointer (some ⟨tb, 0, none⟩), .agg #[.bool x.f0, .string x.f1, .int .i64 x.f2]] w fun e w' => e = .returned (.int .i64 ((L.idxOf (norm x) : Nat) : Int)) ∧ Below w.heap.size w w' := by
  obtain ⟨bm, v, n, D, h1, h2, h3, h4, h5, h6, h7, h8⟩ := hT
  obtain ⟨kl, hkl⟩ : ∃ kl, IsKl (norm x) kl := keyOf_kv hx.norm
  obtain ⟨g1, g2⟩ := h6.2 _ _ hkl
  have HD := Aside0.mk (And.intro g1 (g2 hm))
  have hD : has D kl = true := by rw [g1]; simpa using hm
  have c0 : w.cell? ⟨tb, 0, none⟩ = some (.map (some bm)) := (blk_cell h1 0).trans rfl
  have hO := h4.alloc (.cells #[.bool x.f0, .string x.f1, .int .i64 x.f2] 29)
  have hO := hO.drew
  have c1 := pw_cell_below (below_drew (below_alloc (Below.refl w.heap.size w) (.cells #[.bool x.f0, .string x.f1, .int .i64 x.f2] 29))) c0
  clear g1 g2 h1 h4 h5 h6 h7 h8
  go_enter Try.func10, Try.ntmps10
  go_wp2_with fail
  go_region_held3 (fun w' => (w'.cell? ⟨w.heap.size, 0, none⟩ = some (.bool x.f0) ∧ w'.cell? ⟨w.heap.size, 1, none⟩ = some (.string x.f1) ∧ w'.cell? ⟨w.heap.size, 2, none⟩ = some (.int .i64 x.f2)) ∧ Below w.heap.size w w')
    (first | (go_split_ands; exact ⟨⟨by assumption, by assumption, by assumption⟩, by assumption⟩) | (go_split_ands; exact ⟨⟨pw_cell_below hb (by assumption), pw_cell_below hb (by assumption), pw_cell_below hb (by assumption)⟩, below_step (by assumption) hb⟩) | (refine ⟨⟨?_, ?_, ?_⟩, below_drew (below_alloc (Below.refl _ _) _)⟩ <;> go_simp))
    (first
      | (go_at_call 17; refine (number_any tb bm n D x _ c1 hO kl hkl).mono ?_; rintro e w' ⟨c, rfl, hc, hb⟩; rw [hD]))
  go_wp2
  go_ret
  go_split_ands
  have hb1 : Below w.heap.size w w' := by assumption
  refine ⟨?_, hb1⟩
  rw [hc] at HD
  have := HD.out.2
  injection this with this
  injection this with _ this
  rw [← this]
  rfl

theorem put_old (w0 : World) (base : Nat) (ok : Nat → Prop) (tb : Nat) (L : List S29) (x : S29) (w : World) (hT : IsTab w base ok tb L) (hB : Below base w0 w) (hbase : base ≤ w.heap.size) (hx : Ok x) (hm : norm x ∈ L) :
    Calls Try.prog 10 #[.pointer (some ⟨tb, 0, none⟩), .agg #[.bool x.f0, .string x.f1, .int .i64 x.f2]] w (PutPost w0 w base ok tb L x) := by
  refine (put_there base ok tb L x w hT hx hm).mono ?_
  rintro e w' ⟨rfl, hb⟩
  refine ⟨rfl, ?_, below_then hB hbase hb, KeepT.below hb, Kept.of_below hb _⟩
  rw [putL, if_pos hm]
  exact (hT.below hb).mono (fun _ h => .inl h)

theorem below_grownT {B : Nat} {w0 w w1 : World} (h : Below B w0 w) (hB : B ≤ w.heap.size) {bm : Nat} (hg : w.grownBy w1 (some bm)) (hb : B ≤ bm) : Below B w0 w1 := h.grown hg hB (fun k e => by cases e; exact hb)

theorem KeepT.grown {w w1 : World} {row : Option Nat} (hg : w.grownBy w1 row) (hr : ∀ (k : Nat) (cells : Array Value) (q : Nat), row = some k → w.heap[k]? = some (Obj.cells cells q (0, 0)) → q = 29 ∨ q = 47) : KeepT w w1 :=
  ⟨hg.size, fun k cells q hk h1 h2 => hg.block k (blk_lt hk) (fun e => by
    rcases hr k cells q e.symm hk with h | h
    · exact h1 h
    · exact h2 h)⟩
theorem KeepT.set {w : World} {g : Nat} {cs : Array Value} (h : w.heap[g]? = some (Obj.cells cs 47 (0, 0))) (j : Nat) (u : Value) : KeepT w (w.setCell ⟨g, j, none⟩ u) :=
  ⟨by simp [World.setCell], fun k cells q hk _ h2 => Below.heap_setCell w _ u k (fun e => by
    have e' : k = g := e
    subst e'
    rw [h] at hk
    cases hk
    exact h2 rfl)⟩
theorem KeepT.map {w w1 : World} {bm n : Nat} {D : DataW Unit} (ho : Owns w bm n D) (hg : w.grownBy w1 (some bm)) : KeepT w w1 := by
  refine KeepT.grown hg (fun k cells q e hk => ?_)
  cases e
  obtain ⟨es, ck, hh, _⟩ := ho
  rw [hk] at hh
  cases hh
theorem KeepT.own {w w1 : World} {base : Nat} {ok : Nat → Prop} {v : Value} {L : List S29} (hR : Kd.R k29 29 w base ok v L) (hg : w.grownBy w1 v.ownBlock) : KeepT w w1 := by
  refine KeepT.grown hg (fun k cells q e hk => ?_)
  obtain ⟨inner, ho⟩ := Kd.R_own hR
  obtain ⟨c', hc⟩ := own_typed ho k e
  rw [hk] at hc
  cases hc
  exact .inl rfl

theorem infoT : (Try.prog.info? 29).map (fun i => (i.zero, i.size, i.bytes)) = some (some (.agg #[(.bool false), (.string ⟨#[]⟩), (.int .i64 0)]), 3, 32) := by kernel_rfl

set_option maxHeartbeats 8000000 in
set_option maxRecDepth 100000 in
theorem put_new (w0 : World) (base : Nat) (ok : Nat → Prop) (tb : Nat) (L : List S29) (x : S29) (w : World) (hT : IsTab w base ok tb L) (hB : Below base w0 w) (hbase : base ≤ w.heap.size) (hx : Ok x) (hm : norm x ∉ L) (hl : L.length ≤ 1048576) :
    Calls Try.prog 10 #[.pointer (some ⟨tb, 0, none⟩), .agg #[.bool x.f0, .string x.f1, .int .i64 x.f2]] w (PutPost w0 w base ok tb L x) := by
  obtain ⟨bm, v, n, D, h1, ⟨h2, h2o⟩, ⟨h3, h3o⟩, h4, h5, h6, h7, h8⟩ := hT
  obtain ⟨kl, hkl⟩ : ∃ kl, IsKl (norm x) kl := keyOf_kv hx.norm
  obtain ⟨g1, _⟩ := h6.2 _ _ hkl
  have hD : has D kl = false := by rw [g1]; simpa using hm
  obtain ⟨A, cp, rfl, _, _⟩ := Kd.R_reads h7
  have c0 : w.cell? ⟨tb, 0, none⟩ = some (.map (some bm)) := (blk_cell h1 0).trans rfl
  have hO := h4.alloc (.cells #[.bool x.f0, .string x.f1, .int .i64 x.f2] 29)
  have hO := hO.drew
  have c1 := pw_cell_below (below_drew (below_alloc (Below.refl w.heap.size w) (.cells #[.bool x.f0, .string x.f1, .int .i64 x.f2] 29))) c0
  have H1 := Aside0.mk h1
  have H4 := Aside0.mk h4
  have H6 := Aside0.mk h6
  have H7 := Aside0.mk h7
  have H8 := Aside0.mk h8
  have HB0 := Aside0.mk hB
  clear g1 h1 h4 h6 h7 h8 hB
  go_enter Try.func10, Try.ntmps10
  go_wp2_with fail
  go_region_held3 (fun w' => (w'.cell? ⟨w.heap.size, 0, none⟩ = some (.bool x.f0) ∧ w'.cell? ⟨w.heap.size, 1, none⟩ = some (.string x.f1) ∧ w'.cell? ⟨w.heap.size, 2, none⟩ = some (.int .i64 x.f2)) ∧ Below w.heap.size w w')
    (first | (go_split_ands; exact ⟨⟨by assumption, by assumption, by assumption⟩, by assumption⟩) | (go_split_ands; exact ⟨⟨pw_cell_below hb (by assumption), pw_cell_below hb (by assumption), pw_cell_below hb (by assumption)⟩, below_step (by assumption) hb⟩) | (refine ⟨⟨?_, ?_, ?_⟩, below_drew (below_alloc (Below.refl _ _) _)⟩ <;> go_simp))
    (first
      | (go_at_call 17; refine (number_any tb bm n D x _ c1 hO kl hkl).mono ?_; rintro e w' ⟨c, rfl, hc, hb⟩; rw [hD]))
  clear hO c1
  go_split_ands
  have hb1 : Below w.heap.size w w' := by assumption
  have K1 := blk_below H1.out hb1
  have c0 : w'.cell? ⟨tb, 0, none⟩ = some (.map (some bm)) := (blk_cell K1 0).trans rfl
  have c1 : w'.cell? ⟨tb, 1, none⟩ = some (.slice A L.length cp) := (blk_cell K1 1).trans rfl
  have HO1 := Aside0.mk (H4.out.below hb1)
  have HB1 := Aside0.mk hb1
  have HK1 := Aside0.mk K1
  have hne : tb ≠ bm := by
    rintro rfl
    obtain ⟨es, ck, hh, _⟩ := H4.out
    rw [H1.out] at hh
    cases hh
  have hne2 : w.heap.size ≠ bm := fun e => by
    have := World.ownsMap.lt H4.out
    omega
  clear hb1 K1 hb hc
  go_wp2_with fail
  go_region_held3 (fun W => W.cell? ⟨w.heap.size, 0, none⟩ = some (.bool x.f0) ∧ W.cell? ⟨w.heap.size, 1, none⟩ = some (.string x.f1) ∧ W.cell? ⟨w.heap.size, 2, none⟩ = some (.int .i64 x.f2) ∧ W.cell? ⟨tb, 1, none⟩ = some (.slice A L.length cp))
    (first | (go_split_ands; exact ⟨by assumption, by assumption, by assumption, by assumption⟩) | (go_split_ands; exact ⟨hg.cell (by assumption) (by simpa using hne2), hg.cell (by assumption) (by simpa using hne2), hg.cell (by assumption) (by simpa using hne2), hg.cell (by assumption) (by simpa using hne)⟩))
    (first
      | (go_at_call 18; refine (note_any tb bm n D x (L.length : Nat) _ (by exact c0) (by exact HO1.out.drew) (by unfold maxLen; omega) kl hkl (WalkArith.wf_i64 (by omega))).mono ?_; rintro e W2 ⟨rfl, hO2, hg⟩))
  go_split_ands
  have K2 : W2.heap[tb]? = some (.cells #[.map (some bm), .slice A L.length cp] 47 (0, 0)) := blk_grown (blk_drew HK1.out) hg (by simpa using hne)
  have b0 := hg.cell (a := ⟨w.heap.size, 0, none⟩) (v := .bool x.f0) (by assumption) (by simpa using hne2)
  have hlt := World.ownsMap.lt H4.out
  have htl := blk_lt H1.out
  have HR0 : Kd.R k29 29 w base (fun k => (ok k ∨ w.heap.size ≤ k) ∧ k ≠ bm ∧ k ≠ tb) (.slice A L.length cp) L := by
    refine Kd.R_mono (Kd.R_bound (Kd.R_types H7.out H1.out (by decide))) (fun k hk => ⟨.inl hk.1.1, ?_, hk.1.2⟩)
    obtain ⟨_, _, _, q, _, cells, hc⟩ := hk
    rintro rfl
    obtain ⟨es, ck, hh, _⟩ := H4.out
    rw [hc] at hh
    cases hh
  have hz1 : w'.heap.size ≤ W2.heap.size := hg.size
  have hz0 : w.heap.size ≤ w'.heap.size := HB1.out.size
  have HR2 := Aside0.mk (Kd.R_grown (Kd.R_drew (Kd.R_below HR0 HB1.out)) hg (fun k hk e => hk.2.1 (by simpa using e)))
  have HB2 := Aside0.mk (below_grownT (below_drew (below_then HB0.out hbase HB1.out)) (Nat.le_trans hbase HB1.out.size) hg h3)
  have HO2 := Aside0.mk hO2
  have HK2 := Aside0.mk K2
  have HG := Aside0.mk hg
  have c1 : W2.cell? ⟨tb, 1, none⟩ = some (.slice A L.length cp) := (blk_cell K2 1).trans rfl
  have HSa := Aside0.mk (Kept.of_grown hg (Kept.drew (Kept.of_below HB1.out ok)) (fun k e => by cases e; exact .inl h3o))
  have HTa := Aside0.mk (KeepT.trans (KeepT.below HB1.out) (show KeepT w' W2 from KeepT.map (w := w'.drew) HO1.out.drew hg))
  clear hO2 K2 hg HR0 b0 c0
  go_wp2_with fail
  go_region_law (first
    | (go_simp; go_at_call 19; refine (key_any x _).mono ?_; rintro e W3 ⟨rfl, hb3⟩; have HR3 := Aside0.mk (Kd.R_below (Kd.R_drew HR2.out) hb3); have HB3 := Aside0.mk (below_then (below_drew HB2.out) (show base ≤ W2.heap.size by omega) hb3); have HT3 := Aside0.mk (KeepT.trans HTa.out (show KeepT W2 W3 from KeepT.below (w := W2.drew) hb3)); have HS3 := Aside0.mk (Kept.below (Kept.drew HSa.out) hb3); have HO3 := Aside0.mk (Owns.below (Owns.drew HO2.out) hb3); have HK3 := Aside0.mk (blk_below (blk_drew HK2.out) hb3); have c3 := pw_cell_below hb3 (a := ⟨tb, 1, none⟩) (v := .slice A L.length cp) (by exact c1); have c3a := fun o => pw_cell_below (below_alloc (Below.refl W3.heap.size W3) o) c3; have hz3 : W2.heap.size ≤ W3.heap.size := hb3.size)
    | (refine Kd.R_append_step k29 (w0 := w0) base ?_ (.tmp 33) (.tmp 36) 22 29 (.agg #[(.bool false), (.string ⟨#[]⟩), (.int .i64 0)]) 32 ?_ Try.underlying22 infoT ?_ ?_ ?_ (.slice A L.length cp) L (norm x) [.bool (norm x).f0, .string (norm x).f1, .int .i64 (norm x).f2] (fun k => (ok k ∨ w.heap.size ≤ k) ∧ k ≠ bm ∧ k ≠ tb) (fun _ => False) ?_ ?_ ?_ ?_ ?_ ?_ ?_ ?_ ?_ ?_; rfl; rfl; rfl; decide; decide; rfl; rfl; exact k29_mkM _ _ _ _; exact fun _ h => h.elim; (intro k hk; exact ⟨.inr (by omega), by omega, by omega⟩); exact HR3.out; exact HB3.out; omega; omega; intro v1 W4 hR4 hB4 hg4 hat4; obtain ⟨A4, cp4, rfl⟩ := Kd.R_slice hR4; have HR4 := Aside0.mk hR4; have HB4 := Aside0.mk hB4; have HG4 := Aside0.mk hg4; have K4 := blk_grown HK3.out hg4 (fun e => (HR3.out.1 tb e.symm).2.2 rfl); have c4 : W4.cell? ⟨tb, 1, none⟩ = some (.slice A L.length cp) := (blk_cell K4 1).trans rfl; have f4 := blk_frozen K4 1))
  all_goals
    have K5 : (W4.setCell ⟨tb, 1, none⟩ (.slice A4 (L.length + 1) cp4)).heap[tb]? = some (.cells #[.map (some bm), .slice A4 (L.length + 1) cp4] 47 (0, 0)) := blk_put K4 1 _ rfl
    have c5 : (W4.setCell ⟨tb, 1, none⟩ (.slice A4 (L.length + 1) cp4)).cell? ⟨tb, 1, none⟩ = some (.slice A4 (L.length + 1) cp4) := (blk_cell K5 1).trans rfl
    have HK5 := Aside0.mk K5
    have HT5 := Aside0.mk (KeepT.trans HT3.out (KeepT.trans (KeepT.own HR3.out hg4) (KeepT.set K4 1 (.slice A4 (L.length + 1) cp4))))
    have HS5 := Aside0.mk (Kept.setCell (Kept.of_grown hg4 HS3.out (fun k e => (HR3.out.1 k e).1)) (p := ⟨tb, 1, none⟩) (.inl h2o) (.slice A4 (L.length + 1) cp4))
    have HO5 := Aside0.mk (World.ownsMap.setCell (World.ownsMap.kept HO3.out hg4 (fun e => (HR3.out.1 bm e.symm).2.1 rfl)) (a := ⟨tb, 1, none⟩) (Ne.symm hne) (.slice A4 (L.length + 1) cp4))
    clear K5 K4 c4 f4
    go_wp2
    go_ret
    refine ⟨?_, ?_, HB4.out.setCell h2 _, HT5.out, HS5.out⟩
    · rw [List.idxOf_eq_length hm]
      rfl
    · rw [putL, if_neg hm]
      refine ⟨bm, .slice A4 (L.length + 1) cp4, n + 1, _, HK5.out, ⟨h2, .inl h2o⟩, ⟨h3, .inl h3o⟩, HO5.out, by simp; omega, dok_snoc H6.out hm hkl, ?_, ?_⟩
      · have := HR4.out
        rw [List.length_append] at this
        exact Kd.R_mono (Kd.R_far (p := ⟨tb, 1, none⟩) this (fun k hk => hk.2.2) _) (fun _ hk => hk.1)
      · intro y hy
        rcases List.mem_append.1 hy with hy | hy
        · exact H8.out y hy
        · rw [List.mem_singleton.1 hy]
          exact hx.norm

theorem put_any (w0 : World) (base : Nat) (ok : Nat → Prop) (tb : Nat) (L : List S29) (x : S29) (w : World) (hT : IsTab w base ok tb L) (hB : Below base w0 w) (hbase : base ≤ w.heap.size) (hx : Ok x) (hl : L.length ≤ 1048576) :
    Calls Try.prog 10 #[.pointer (some ⟨tb, 0, none⟩), .agg #[.bool x.f0, .string x.f1, .int .i64 x.f2]] w (PutPost w0 w base ok tb L x) := by
  by_cases hm : norm x ∈ L
  · exact put_old w0 base ok tb L x w hT hB hbase hx hm
  · exact put_new w0 base ok tb L x w hT hB hbase hx hm hl
end Go.Proofs.Ytfdjfkmgablmoaa.Tab
