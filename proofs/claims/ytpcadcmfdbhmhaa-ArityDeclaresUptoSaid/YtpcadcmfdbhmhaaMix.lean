/- Rules put into another order, or one more: the new row leads to what the elder ones lead to. -/
import Derived.Test.YtpcadcmfdbhmhaaAgree
import Derived.Deep.RegionLaw
namespace Go.Proofs.Ytpcadcmfdbhmhaa.P
open Go.RowKit Go.Proofs.YtpcadcmfdbhmhaaW.PrintWords Go.Proofs.YtpcadcmfdbhmhaaW.PrintLast Go.Proofs.YtpcadcmfdbhmhaaW.PrintMore

theorem info46 : (Try.prog.info? 46).map (fun i => (i.zero, i.size, i.bytes)) = some (some (.agg #[(.string ⟨#[]⟩), (.slice none 0 0), (.slice none 0 0)]), 3, 64) := by kernel_rfl
theorem heap50 : Kd.Heap k50 := Kd.heap_iso _ (Kd.heap_pair Kd.heap_bool (Kd.heap_pair Kd.heap_string (Kd.heap_int _)))
theorem heap52 : Kd.Heap k52 := Kd.heap_iso _ (Kd.heap_pair Kd.heap_bool (Kd.heap_pair Kd.heap_string heap50))
theorem heap43 : Kd.Heap k43 := Kd.heap_iso _ (Kd.heap_pair Kd.heap_string (Kd.heap_slice _ heap52))
theorem heap54 : Kd.Heap k54 := Kd.heap_iso _ (Kd.heap_pair (Kd.heap_int _) (Kd.heap_pair heap43 (Kd.heap_pair Kd.heap_string (Kd.heap_pair heap52 heap52))))
theorem heap46 : Kd.Heap k46 := Kd.heap_iso _ (Kd.heap_pair heap43 (Kd.heap_slice _ heap54))
theorem few_calls (A : Option Addr) (c : Nat) (ds : List S39) (B : Option Addr) (c' : Nat) (rs : List S46) (w : World) (hA : Kd.C k39 w A ds.length ds) (hc : ds.length ≤ c) (hB : Kd.C k46 w B rs.length rs) (hc' : rs.length ≤ c') (h : Fits ds rs) :
    Calls Try.prog 9 #[.agg #[.slice A ds.length c, .slice B rs.length c']] w fun e w' => e = .returned (.bool (decide (((usesD ds rs).length : Int) ≤ 300))) ∧ Below w.heap.size w w' := by
  obtain ⟨k, hk⟩ := (few_ev h).rounds
  exact lambrequinlaw08_few.calls k A c ds B c' rs _ w hA hc hB hc' hk
theorem of_calls (A : Option Addr) (c : Nat) (ds : List S39) (B : Option Addr) (c' : Nat) (rs : List S46) (w : World) (hA : Kd.C k39 w A ds.length ds) (hc : ds.length ≤ c) (hB : Kd.C k46 w B rs.length rs) (hc' : rs.length ≤ c') (h : Fits ds rs) :
    Calls Try.prog 10 #[.agg #[.slice A ds.length c, .slice B rs.length c']] w fun e w' => ∃ v, e = .returned (.tuple #[v, .int .i64 (runD [] 0 (usesD ds rs)).2.1, .int .i64 (runD [] 0 (usesD ds rs)).2.2]) ∧ Kd.R k39 39 w' w.heap.size (fun _ => True) v (runD [] 0 (usesD ds rs)).1 ∧ Below w.heap.size w w' :=
  arity_Of.calls A c ds B c' rs _ _ _ w hA hc hB hc' (of_some h)
theorem find_calls (A : Option Addr) (c : Nat) (l : List S39) (p : ByteArray) (w : World) (hA : Kd.C k39 w A l.length l) (hc : l.length ≤ c) :
    Calls Try.prog 12 #[.slice A l.length c, .string p] w fun e w' => e = .returned (.tuple #[.int .i64 (foundD l p).1, .bool (foundD l p).2]) ∧ Below w.heap.size w w' :=
  arity_Find.calls A c l p _ _ w hA hc rfl

/-- An empty row of rules. -/
theorem N_empty {W : World} {base : Nat} (hb : base ≤ W.heap.size) : Kd.N k46 46 (W.alloc (.cells #[] 46)) base (fun _ => True) (.slice (some ⟨W.heap.size, 0, none⟩) 0 0) [] := by
  refine Kd.R_N ⟨fun _ _ => trivial, [], ?_, Reps.none _ _⟩
  have h := World.ownsRow_lit (base := base) (e := 46) (size := k46.sz) W #[] 0 hb (by simp [maxLen]) (by simp)
  exact h
theorem N_empty' {W : World} {base n : Nat} (hn : W.heap.size = n) (hb : base ≤ n) : Kd.N k46 46 (W.alloc (.cells #[] 46)) base (fun _ => True) (.slice (some ⟨n, 0, none⟩) 0 0) [] := by
  subst hn
  exact N_empty hb
theorem N39_empty {W : World} {base n : Nat} (hn : W.heap.size = n) (hb : base ≤ n) : Kd.N k39 39 (W.alloc (.cells #[] 39)) base (fun _ => True) (.slice (some ⟨n, 0, none⟩) 0 0) [] := by
  subst hn
  refine Kd.R_N ⟨fun _ _ => trivial, [], ?_, Reps.none _ _⟩
  have h := World.ownsRow_lit (base := base) (e := 39) (size := k39.sz) W #[] 0 hb (by simp [maxLen]) (by simp)
  exact h
theorem own_ne {q g n c : Nat} (h : q < g) : some q ≠ Value.ownBlock (.slice (some ⟨g, 0, none⟩) n c) := by
  intro e
  have he : q = g := Option.some.inj e
  omega
theorem grown_cells {W W' : World} {row : Option Nat} {B : Nat} {cs : Array Value} {t : TypeId} (hg : W.grownBy W' row) (hb : W.heap[B]? = some (.cells cs t (0, 0))) (hr : some B ≠ row) : W'.heap[B]? = some (.cells cs t (0, 0)) :=
  (hg.block B (Array.getElem?_eq_some_iff.1 hb).1 hr).trans hb
theorem two_first (w : World) (o p : Obj) : ((w.alloc o).alloc p).heap[w.heap.size]? = some o := (Below.heap_alloc (w.alloc o) p w.heap.size (by simp)).trans (blk_new w o)
theorem two_second (w : World) (o p : Obj) : ((w.alloc o).alloc p).heap[w.heap.size + 1]? = some p := by
  have := blk_new (w.alloc o) p
  rwa [World.size_alloc] at this
theorem lt_blk {W : World} {B : Nat} {o : Obj} (h : W.heap[B]? = some o) : B < W.heap.size := (Array.getElem?_eq_some_iff.1 h).1
theorem own_ne' {q g n c : Nat} (h : q ≠ g) : some q ≠ Value.ownBlock (.slice (some ⟨g, 0, none⟩) n c) := fun e => h (Option.some.inj e)
theorem N_emptyG {W : World} {base n G : Nat} (hn : W.heap.size = n) (hb : base ≤ n) (hG : n ≠ G) : Kd.N k46 46 (W.alloc (.cells #[] 46)) base (fun q => q ≠ G) (.slice (some ⟨n, 0, none⟩) 0 0) [] := by
  subst hn
  refine Kd.R_N ⟨fun q hq => ?_, [], ?_, Reps.none _ _⟩
  · have : W.heap.size = q := Option.some.inj hq
    omega
  · have h := World.ownsRow_lit (base := base) (e := 46) (size := k46.sz) W #[] 0 hb (by simp [maxLen]) (by simp)
    exact h
theorem set_two {W : World} {g t : Nat} {v0 v1 x0 x1 : Value} (h : W.heap[g]? = some (.cells #[x0, x1] t (0, 0))) : ((W.setCell ⟨g, 0, none⟩ v0).setCell ⟨g, 1, none⟩ v1).heap[g]? = some (.cells #[v0, v1] t (0, 0)) := by
  simp [World.setCell, Array.getElem?_modify, h]
/-- What the mixed program lies as. -/
def Mixed (w2 : World) (A : Option Addr) (n c : Nat) (xs : List S46) (s7 : Value) (W : World) : Prop :=
  ∃ (g : Nat) (A5 : Option Addr) (n5 c5 : Nat), s7 = .pointer (some ⟨g, 0, none⟩) ∧ W.heap[g]? = some (.cells #[.slice A n c, .slice A5 n5 c5] 25 (0, 0)) ∧ Below w2.heap.size w2 W ∧ Kd.N k46 46 W w2.heap.size (fun _ => True) (.slice A5 n5 c5) xs ∧ w2.heap.size ≤ g
theorem mixed_new {w2 w5 : World} {A A5 : Option Addr} {n c n5 c5 : Nat} {xs : List S46} (hb : Below w2.heap.size w2 w5) (hN : Kd.N k46 46 w5 w2.heap.size (fun _ => True) (.slice A5 n5 c5) xs) : Mixed w2 A n c xs (.pointer (some ⟨w5.heap.size, 0, none⟩)) (w5.alloc (.cells #[.slice A n c, .slice A5 n5 c5] 25)) :=
  ⟨_, A5, n5, c5, rfl, blk_new _ _, below_alloc hb _, Kd.N_alloc hN _, hb.size⟩
theorem mixed_set {w2 w5 : World} {A A5 : Option Addr} {n c n5 c5 G : Nat} {x0 x1 : Value} {xs : List S46} (hb : Below w2.heap.size w2 w5) (hN : Kd.N k46 46 w5 w2.heap.size (fun q => q ≠ G) (.slice A5 n5 c5) xs) (hK : w5.heap[G]? = some (.cells #[x0, x1] 25 (0, 0))) (hG : w2.heap.size ≤ G) :
    Mixed w2 A n c xs (.pointer (some ⟨G, 0, none⟩)) ((w5.setCell ⟨G, 0, none⟩ (.slice A n c)).setCell ⟨G, 1, none⟩ (.slice A5 n5 c5)) :=
  ⟨G, A5, n5, c5, rfl, set_two hK, (hb.setCell hG _).setCell hG _, Kd.N_mono (Kd.N_far (Kd.N_far hN (fun _ h => h) _) (fun _ h => h) _) (fun _ _ => trivial), hG⟩
theorem of_gives (A : Option Addr) (c : Nat) (ds : List S39) (B : Option Addr) (c' : Nat) (rs : List S46) (w : World) (hA : Kd.C k39 w A ds.length ds) (hc : ds.length ≤ c) (hB : Kd.C k46 w B rs.length rs) (hc' : rs.length ≤ c') (h : Fits ds rs) {L : List S39} {p e : Int} (hr : runD [] 0 (usesD ds rs) = (L, p, e)) :
    Calls Try.prog 10 #[.agg #[.slice A ds.length c, .slice B rs.length c']] w fun x w' => ∃ AL cL, x = .returned (.tuple #[.slice AL L.length cL, .int .i64 p, .int .i64 e]) ∧ L.length ≤ cL ∧ Kd.C k39 w' AL L.length L ∧ Below w.heap.size w w' := by
  refine (arity_Of.calls A c ds B c' rs L p e w hA hc hB hc' ((of_some h).trans (by rw [hr]))).mono ?_
  rintro x w' ⟨v, rfl, hR, hb⟩
  obtain ⟨AL, cL, rfl, hcL, hC⟩ := Kd.R_reads hR
  exact ⟨AL, cL, rfl, hcL, hC, hb⟩
theorem find_gives (A : Option Addr) (c : Nat) (l : List S39) (p : ByteArray) (n : Int) (w : World) (hA : Kd.C k39 w A l.length l) (hc : l.length ≤ c) (hf : findD l p = some n) :
    Calls Try.prog 12 #[.slice A l.length c, .string p] w fun e w' => e = .returned (.tuple #[.int .i64 n, .bool true]) ∧ Below w.heap.size w w' :=
  arity_Find.calls A c l p _ _ w hA hc (by rw [arity_Find.f, foundD, hf])
theorem find_gives' (A : Option Addr) (c m : Nat) (l : List S39) (p : ByteArray) (n : Int) (w : World) (hA : Kd.C k39 w A l.length l) (hc : m ≤ c) (hm : m = l.length) (hf : findD l p = some n) :
    Calls Try.prog 12 #[.slice A m c, .string p] w fun e w' => e = .returned (.tuple #[.int .i64 n, .bool true]) ∧ Below w.heap.size w w' := by
  subst hm
  exact find_gives A c l p n w hA hc hf
theorem u8_lo {n : Int} (h : (Lit.int IntKind.u8 n).wf = true) : 0 ≤ n := by
  simp only [Lit.wf, Bool.and_eq_true, decide_eq_true_eq] at h
  have h0 : IntKind.u8.min = 0 := rfl
  have h1 : IntKind.u8.max = 255 := rfl
  omega
theorem u8_hi {n : Int} (h : (Lit.int IntKind.u8 n).wf = true) : n ≤ 255 := by
  simp only [Lit.wf, Bool.and_eq_true, decide_eq_true_eq] at h
  have h0 : IntKind.u8.min = 0 := rfl
  have h1 : IntKind.u8.max = 255 := rfl
  omega
theorem F_one46 {W : World} {b n : Nat} {r : S46} {rA rB : Option Addr} {rc rd : Nat} (hb : W.heap[b]? = some (.cells #[.string r.f0.f0, .slice rA r.f0.f1.length rc, .slice rB r.f1.length rd] 46 (0, 0))) (hrc : r.f0.f1.length ≤ rc) (hrd : r.f1.length ≤ rd)
    (hA : Kd.F k52 W (fun q => q < n) rA r.f0.f1.length r.f0.f1) (hB : Kd.F k54 W (fun q => q < n) rB r.f1.length r.f1) : Kd.F k46 W (fun q => q < n ∨ q = b) (some ⟨b, 0, none⟩) 1 [r] := by
  intro W' hW
  have hb' : W'.heap[b]? = _ := (hW b (.inr rfl) (lt_blk hb)).trans hb
  exact C_block (d := k46) (xs := [r]) (inner := [.string r.f0.f0, .slice rA r.f0.f1.length rc, .slice rB r.f1.length rd]) hb'
    (Reps.snoc (Reps.none _ _) (k46_mk W' r hrc (hA W' (fun k hk hl => hW k (.inl hk) hl)) hrd (hB W' (fun k hk hl => hW k (.inl hk) hl))) rfl) (by simp)
theorem drawn0_below {w w' : World} (h : Drawn0 w w') : Below w.heap.size w w' := by
  obtain ⟨n, rfl⟩ := h
  exact pw_below_drewN (Below.refl _ _) n
theorem of_gives' (A : Option Addr) (c : Nat) (ds : List S39) (B : Option Addr) (n' c' : Nat) (rs : List S46) (w : World) (hA : Kd.C k39 w A ds.length ds) (hc : ds.length ≤ c) (hB : Kd.C k46 w B rs.length rs) (hc' : n' ≤ c') (hn : n' = rs.length) (h : Fits ds rs) {L : List S39} {p e : Int} (hr : runD [] 0 (usesD ds rs) = (L, p, e)) :
    Calls Try.prog 10 #[.agg #[.slice A ds.length c, .slice B n' c']] w fun x w' => ∃ AL cL, x = .returned (.tuple #[.slice AL L.length cL, .int .i64 p, .int .i64 e]) ∧ L.length ≤ cL ∧ Kd.C k39 w' AL L.length L ∧ Below w.heap.size w w' := by
  subst hn
  exact of_gives A c ds B c' rs w hA hc hB hc' h hr
theorem of_gives2 (A : Option Addr) (n c : Nat) (ds : List S39) (B : Option Addr) (c' : Nat) (rs : List S46) (w : World) (hA : Kd.C k39 w A ds.length ds) (hc : n ≤ c) (hn : n = ds.length) (hB : Kd.C k46 w B rs.length rs) (hc' : rs.length ≤ c') (h : Fits ds rs) {L : List S39} {p e : Int} (hr : runD [] 0 (usesD ds rs) = (L, p, e)) :
    Calls Try.prog 10 #[.agg #[.slice A n c, .slice B rs.length c']] w fun x w' => ∃ AL cL, x = .returned (.tuple #[.slice AL L.length cL, .int .i64 p, .int .i64 e]) ∧ L.length ≤ cL ∧ Kd.C k39 w' AL L.length L ∧ Below w.heap.size w w' := by
  subst hn
  exact of_gives A c ds B c' rs w hA hc hB hc' h hr
end Go.Proofs.Ytpcadcmfdbhmhaa.P
