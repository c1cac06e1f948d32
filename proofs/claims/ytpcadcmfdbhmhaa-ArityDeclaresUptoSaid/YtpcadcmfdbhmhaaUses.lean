/- arity.uses: the declarations, then each rule's atoms; the contract of the function value, under a loop body that keeps what was given and the boxes that it captures. -/
import Derived.Test.YtpcadcmfdbhmhaaAtoms
namespace Go.Proofs.Ytpcadcmfdbhmhaa.P
open Go.RowKit Go.Shelf Go.Proofs.YtpcadcmfdbhmhaaW.PrintWords Go.Proofs.YtpcadcmfdbhmhaaW.PrintLast Go.Proofs.YtpcadcmfdbhmhaaW.PrintMore
attribute [local go_sem] Oper.semAt_some

theorem atoms_in (F : Fence) (n : Nat) (h21 : F.fn 21) (hro : F.round = none) (p : ByteArray) (A1 A2 : Option Addr) (n1 n2 c1 c2 : Nat) (w : World) :
    CallsIn F n Try.prog 21 #[.agg #[.string p, .slice A1 n1 c1, .slice A2 n2 c2]] w fun e w' => e = .returned (.func (.func 22) #[] #[.pointer (some ⟨w.heap.size, 0, none⟩)]) ∧ w' = w.alloc (.cells #[.string p, .slice A1 n1 c1, .slice A2 n2 c2] 46) := by
  refine callsIn_of_wp Try.func21 rfl h21 ?_ hro
  simp only [Try.ntmps21, List.size_toArray, List.length_cons, List.length_nil, Nat.reduceAdd, Nat.reduceSub, Array.replicate_succ, Array.replicate_zero, List.push_toArray, List.append_toArray, List.nil_append, List.cons_append]
  gi_wp2
  go_ret
  exact ⟨rfl, rfl⟩

def D39.enc (x : S39) : Array Value := #[.agg #[.string x.f0, .int .i64 x.f1]]
theorem at39k {w : World} {A : Option Addr} {l : List S39} (h : Kd.C k39 w A l.length l) {k : Nat} (hk : k < l.length) : ∃ ad, A = some ad ∧ w.cell? (ad.add (k * 2)) = some (.string (rd_T39 l (k : Int)).f0) ∧ w.cell? ⟨(ad.add (k * 2)).block, (ad.add (k * 2)).off + 1, none⟩ = some (.int .i64 (rd_T39 l (k : Int)).f1) := by
  have := at_T39 h (k : Int) (by omega) (by omega)
  simpa using this
theorem take39 {l : List S39} {k : Nat} (hk : k < l.length) : l.take (k + 1) = l.take k ++ [rd_T39 l (k : Int)] := by
  rw [List.take_succ_eq_append_getElem hk]
  simp [rd_T39, List.getD_eq_getElem?_getD, hk]

/-- The marks of the loops that are over. -/
def marks (Ds : List Nat) : List Deferred := Ds.map fun D => { target := .collected D, args := #[] }
def Held (B : Nat) (Ds : List Nat) (W : World) : Prop := Ds.Nodup ∧ ∀ D ∈ Ds, B ≤ D ∧ W.heap[D]? = some (.deferred (some []))
theorem Held.keeps {B : Nat} {Ds : List Nat} {W W' : World} (h : Held B Ds W) (hk : KeepsFrom B W W') : Held B Ds W' :=
  ⟨h.1, fun D hD => ⟨(h.2 D hD).1, hk.same _ _ (h.2 D hD).1 (h.2 D hD).2 rfl⟩⟩
theorem Held.leaves {F : Fence} {n B : Nat} {fn : Func} {tmps : Array Value} {R : Ending → World → Prop} {I : Unit → World → Prop} (hI : OwnFrom B I)
    (h0 : ∀ W, I () W → LeavesInM F n Try.prog fn tmps R [] .returning W) : ∀ (Ds : List Nat) (W : World), Held B Ds W → I () W → LeavesInM F n Try.prog fn tmps R (marks Ds) .returning W
  | [], W, _, hi => h0 W hi
  | D :: Ds, W, hh, hi => by
    obtain ⟨hB, hD⟩ := hh.2 D (List.mem_cons_self ..)
    refine ⟨by simp, .inl ⟨D, _, rfl, run_takeDeferred hD, ?_⟩⟩
    refine Held.leaves hI h0 Ds _ ⟨(List.nodup_cons.1 hh.1).2, fun E hE => ⟨(hh.2 E (List.mem_cons_of_mem _ hE)).1, ?_⟩⟩ (hI.putObj _ hi hB hD rfl)
    have hne : E ≠ D := fun e => (List.nodup_cons.1 hh.1).1 (e ▸ hE)
    exact (World.putObj_heap_other hne).trans (hh.2 E (List.mem_cons_of_mem _ hE)).2

/-- The boxes that the iterators read. -/
def Boxes (w0 : World) (Wh Bt : Nat) (y g : Array Value) (W : World) : Prop := Below w0.heap.size w0 W ∧ W.heap[Wh]? = some (.cells y 59 (0, 0)) ∧ W.heap[Bt]? = some (.cells g 25 (0, 0))
theorem Boxes.kp {w0 : World} {Wh Bt : Nat} {y g : Array Value} {W W' : World} (h : Boxes w0 Wh Bt y g W) (k : Kp w0.heap.size W W') : Boxes w0 Wh Bt y g W' :=
  ⟨h.1.trans k.1, k.2 _ _ _ (by simp) h.2.1, k.2 _ _ _ (by simp) h.2.2⟩
theorem Boxes.alloc {w0 : World} {Wh Bt : Nat} {y g : Array Value} {W : World} (h : Boxes w0 Wh Bt y g W) (o : Obj) : Boxes w0 Wh Bt y g (W.alloc o) := h.kp ⟨(Below.refl _ W).alloc h.1.size _, KT.alloc _ _⟩
theorem grownBy_blk {W W' : World} {row : Option Nat} {B : Nat} {cs : Array Value} {t : TypeId} (h : W.heap[B]? = some (.cells cs t (0, 0))) (hg : W.grownBy W' row) (hr : ∀ r, row = some r → ∃ o : Obj, W.heap[r]? = some o ∧ o.isCells = false) : W'.heap[B]? = some (.cells cs t (0, 0)) :=
  (hg.block B (Array.getElem?_eq_some_iff.1 h).1 (fun e => by obtain ⟨o, ho, hc⟩ := hr B e.symm; rw [h] at ho; cases ho; cases hc)).trans h
theorem Boxes.own {β : Type} {w0 : World} {Wh Bt n₀ : Nat} {y g : Array Value} (hn : w0.heap.size ≤ n₀) : OwnFrom n₀ (fun (_ : β) W => Boxes w0 Wh Bt y g W) := by
  intro s W W' row h hg hr
  exact ⟨ownFrom_below (β := Unit) (Nat.le_refl _) hn () W W' row h.1 hg hr, grownBy_blk h.2.1 hg (fun r e => (hr r e).2), grownBy_blk h.2.2 hg (fun r e => (hr r e).2)⟩
theorem Held.own {β : Type} {B n₀ : Nat} {Ds : List Nat} (hn : ∀ D ∈ Ds, D < n₀) : OwnFrom n₀ (fun (_ : β) W => Held B Ds W) := by
  intro s W W' row h hg hr
  refine ⟨h.1, fun D hD => ⟨(h.2 D hD).1, (hg.block D (Array.getElem?_eq_some_iff.1 (h.2 D hD).2).1 (fun e => ?_)).trans (h.2 D hD).2⟩⟩
  have := (hr D e.symm).1
  have := hn D hD
  omega
theorem Held.lt {B : Nat} {Ds : List Nat} {W : World} (h : Held B Ds W) : ∀ D ∈ Ds, D < W.heap.size := fun D hD => (Array.getElem?_eq_some_iff.1 (h.2 D hD).2).1
theorem Held.alloc {B : Nat} {Ds : List Nat} {W : World} (h : Held B Ds W) (o : Obj) : Held B Ds (W.alloc o) := h.keeps ((KeepsOthers.alloc W o).from B)
theorem Held.cons {B : Nat} {Ds : List Nat} {W : World} {D n₀ : Nat} (h : Held B Ds W) (hn : ∀ E ∈ Ds, E < n₀) (hB : B ≤ n₀) (hD : n₀ ≤ D) (hK : W.heap[D]? = some (.deferred (some []))) : Held B (D :: Ds) W :=
  ⟨List.nodup_cons.2 ⟨fun hm => by have := hn D hm; omega, h.1⟩, fun E hE => by
    rcases List.mem_cons.1 hE with rfl | hE
    · exact ⟨by omega, hK⟩
    · exact h.2 E hE⟩
theorem take46 {l : List S46} {k : Nat} (hk : k < l.length) : (l.take (k + 1)).flatMap atomsD = (l.take k).flatMap atomsD ++ atomsD (rd_T46 l (k : Int)) := by
  rw [List.take_succ_eq_append_getElem hk, List.flatMap_append]
  simp [rd_T46, List.getD_eq_getElem?_getD, hk]
theorem own_at {α β : Type} {B : Nat} {J : α → World → Prop} (h : OwnFrom B J) (f : β → α) : OwnFrom B (fun s W => J (f s) W) := fun s W W' row hs hg hr => h (f s) W W' row hs hg hr

set_option maxRecDepth 100000 in
set_option maxHeartbeats 4000000 in
theorem uses1_in (F : Fence) (n : Nat) (hn : 9 ≤ n) (h20 : F.fn 20) (h21 : F.fn 21) (h22 : F.fn 22) (hro : F.round = none) (hdp : F.depth = none) (l Bt B : Nat) (w0 : World) (ds : List S39) (rs : List S46) (A0 A1 : Option Addr) (c0 c1 : Nat) (J Jx : List S39 → World → Prop)
    (hC0 : Kd.C k39 w0 A0 ds.length ds) (hC1 : Kd.C k46 w0 A1 rs.length rs) (hJ : OwnFrom B J) (hJx : OwnFrom B Jx)
    (hY : ∀ m pre x W, J pre W → pre.length < (usesD ds rs).length → YieldAt F m Try.prog l (D39.enc x) W (Turned B (Kp w0.heap.size) J Jx (pre ++ [x]) W))
    (W : World) (hBW : B = W.heap.size) (hb : W.heap[Bt]? = some (.cells #[.slice A0 ds.length c0, .slice A1 rs.length c1] 25 (0, 0))) (hW : Below w0.heap.size w0 W) (h0 : J [] W) :
    CallsIn F n Try.prog 20 #[.func (.yield l) #[] #[], .pointer (some ⟨Bt, 0, none⟩)] W fun e W' => (∃ v, e = .returned v) ∧
      ((∃ ys, ys = usesD ds rs ∧ J ys W') ∨ (∃ pre, pre <+: usesD ds rs ∧ Jx pre W')) := by
  have hy59 := blk_new W (.cells #[.func (.yield l) #[] #[]] 59 (0, 0))
  have hb25 := (Below.heap_alloc W (.cells #[.func (.yield l) #[] #[]] 59 (0, 0)) Bt (Array.getElem?_eq_some_iff.1 hb).1).trans hb
  have hb0 : (W.alloc (.cells #[.func (.yield l) #[] #[]] 59 (0, 0))).cell? ⟨Bt, 0, none⟩ = some (.slice A0 ds.length c0) := (blk_cell hb25 0).trans rfl
  have H59 := Aside0.mk hy59
  have H25 := Aside0.mk hb25
  clear hy59 hb25
  have HY := Aside0.mk hY
  have HB := Aside0.mk hb
  have HC0 := Aside0.mk hC0
  have HC1 := Aside0.mk hC1
  have HW := Aside0.mk hW
  have H0 := Aside0.mk h0
  have HO := Aside0.mk hJ
  have HOx := Aside0.mk hJx
  have HBW := Aside0.mk hBW
  clear hY hb hC0 hC1 hW h0 hJ hJx hBW
  have hlen : ds.length ≤ 9223372036854775807 := HC0.out.2.1
  have hlen1 : rs.length ≤ 9223372036854775807 := HC1.out.2.1
  refine callsIn_of_wp_marks Try.func20 rfl h20 ?_ hro
  simp only [Try.ntmps20, List.size_toArray, List.length_cons, List.length_nil, Nat.reduceAdd, Nat.reduceSub, Array.replicate_succ, Array.replicate_zero, List.push_toArray, List.append_toArray, List.nil_append, List.cons_append]
  gi_wp2
  clear hb0
  gi_loopw [11] (fun i wr => ∃ k : Nat, k ≤ ds.length ∧ i = .int .i64 k ∧ J (ds.take k) wr ∧ Below w0.heap.size w0 wr ∧ wr.heap[W.heap.size]? = some (.cells #[.func (.yield l) #[] #[]] 59 (0, 0)) ∧ wr.heap[Bt]? = some (.cells #[.slice A0 ds.length c0, .slice A1 rs.length c1] 25 (0, 0))) (fun i _ => ds.length - (intOf i).toNat)
  case atStart => exact ⟨0, by omega, rfl, HO.out.alloc _ H0.out, below_alloc HW.out _, H59.out, H25.out⟩
  case round =>
    obtain ⟨k, hk, rfl, hj, hb, h59, h25⟩ := hrel
    clear HW H0 H59 H25
    have HJ := Aside0.mk hj
    have HB0 := Aside0.mk hb
    have H59 := Aside0.mk h59
    have H25 := Aside0.mk h25
    clear hj hb h59 h25
    by_cases hlt : k < ds.length
    · obtain ⟨ad, rfl, e0, e1⟩ := at39k HC0.out hlt
      have HD := Aside0.mk (take39 hlt)
      obtain ⟨d, hd⟩ : ∃ d, d = rd_T39 ds (k : Int) := ⟨_, rfl⟩
      rw [← hd] at e0 e1 HD
      clear hd
      have d0 := pw_cell_below HB0.out e0
      have d1 := pw_cell_below HB0.out e1
      clear e0 e1
      obtain ⟨WB, hWB⟩ : ∃ WB, WB = wr.alloc (.cells #[.string d.f0, .int .i64 d.f1] 39) := ⟨_, rfl⟩
      have f59 : WB.heap[W.heap.size]? = some (.cells #[.func (.yield l) #[] #[]] 59 (0, 0)) := by rw [hWB]; exact (Below.heap_alloc wr _ _ (Array.getElem?_eq_some_iff.1 H59.out).1).trans H59.out
      have f25 : WB.heap[Bt]? = some (.cells #[.slice (some ad) ds.length c0, .slice A1 rs.length c1] 25 (0, 0)) := by rw [hWB]; exact (Below.heap_alloc wr _ _ (Array.getElem?_eq_some_iff.1 H25.out).1).trans H25.out
      have f0 : WB.cell? ⟨W.heap.size, 0, none⟩ = some (.func (.yield l) #[] #[]) := (blk_cell f59 0).trans rfl
      have HBB := Aside0.mk (show Below w0.heap.size w0 WB from by rw [hWB]; exact below_alloc HB0.out _)
      obtain ⟨fn2, tmps2, assign2, body2, hy2, hR2⟩ := HY.out (n - 1) (ds.take k) d WB (by rw [hWB]; exact HO.out.alloc _ HJ.out) (by rw [usesD, List.length_append, List.length_take]; omega)
      dsimp only [D39.enc] at hy2
      have F59 := Aside0.mk f59
      have F25 := Aside0.mk f25
      have HWB := Aside0.mk hWB
      rw [hWB] at hy2 f0
      clear f59 f25 hWB
      gi_wp2
      rw [← HWB.out]
      refine hR2.mono ?_
      clear hR2 hy2 d0 d1 f0
      rintro e W3 ⟨hkf, (⟨rfl, hJ3, hk3⟩ | ⟨rfl, hJx3⟩)⟩
      · have HJ3 := Aside0.mk hJ3
        have HK3 := Aside0.mk hk3
        clear hJ3 hk3 hkf
        gi_wp2
        go_roundw
        case rel => exact ⟨k + 1, by omega, by simp, by rw [HD.out]; exact HJ3.out, HBB.out.trans HK3.out.1, HK3.out.2 _ _ _ (by simp) F59.out, HK3.out.2 _ _ _ (by simp) F25.out⟩
        case measure => simp [intOf]; omega
      · have HX3 := Aside0.mk hJx3
        clear hJx3 hkf
        gi_wp2
        refine ⟨_, results_none rfl _ _ _, ⟨_, rfl⟩, .inr ⟨_, ?_, HX3.out⟩⟩
        rw [← HD.out]
        exact (List.take_prefix _ _).trans (List.prefix_append _ _)
    · obtain rfl : k = ds.length := by omega
      have hc1 : wr.cell? ⟨Bt, 1, none⟩ = some (.slice A1 rs.length c1) := (blk_cell H25.out 1).trans rfl
      have HJ2 := Aside0.mk (show J ds wr from by have := HJ.out; rwa [List.take_length] at this)
      clear HJ
      gi_wp2
      have HX := Aside0.mk (⟨HB0.out, H59.out, H25.out⟩ : Boxes w0 W.heap.size Bt #[.func (.yield l) #[] #[]] #[.slice A0 ds.length c0, .slice A1 rs.length c1] wr)
      clear hc1 HB0 H59 H25
      refine wpIn_loop (fun a wr => ∃ (k : Nat) (Ds : List Nat) (u6 u7 u24 u25 u26 u27 u28 u29 u30 u31 u32 u33 u34 u35 u36 u37 u38 u39 : Value), a = { tmps := #[.func (.yield l) #[] #[], .pointer (some ⟨Bt, 0, none⟩), .pointer (some ⟨W.heap.size, 0, none⟩), undef, u4, undef, u6, u7, .pointer (some ⟨Bt, 0, none⟩), .slice A0 ds.length c0, .int .i64 ds.length, .int .i64 ds.length, .bool false, u13, u14, u15, u16, u17, u18, u19, .pointer (some ⟨Bt, 1, none⟩), .slice A1 rs.length c1, .int .i64 rs.length, .int .i64 k, u24, u25, u26, u27, u28, u29, u30, u31, u32, u33, u34, u35, u36, u37, u38, u39], defers := marks Ds } ∧ k ≤ rs.length ∧ J (ds ++ (rs.take k).flatMap atomsD) wr ∧ Boxes w0 W.heap.size Bt #[.func (.yield l) #[] #[]] #[.slice A0 ds.length c0, .slice A1 rs.length c1] wr ∧ Held B Ds wr) (fun a _ => rs.length - (intOf (a.tmps.getD 23 undef)).toNat) ?_ ?_
      · exact ⟨0, [], _, _, _, _, _, _, _, _, _, _, _, _, _, _, _, _, _, _, rfl, by omega, by simpa using HJ2.out, HX.out, ⟨List.nodup_nil, fun _ h => by cases h⟩⟩
      clear HJ2 HX
      rintro a wr ⟨k, Ds, u6, u7, u24, u25, u26, u27, u28, u29, u30, u31, u32, u33, u34, u35, u36, u37, u38, u39, rfl, hk, hj, hx, hh⟩
      have HJ := Aside0.mk hj
      have HX := Aside0.mk hx
      have HH := Aside0.mk hh
      clear hj hx hh
      by_cases hlt : k < rs.length
      · obtain ⟨ad, A3, c3, A4, c4, rfl, e0, e1, e2, l3, g3, l4, g4⟩ := at_T46 HC1.out (k : Int) (by omega) (by omega)
        have HD := Aside0.mk (take46 hlt)
        obtain ⟨r, hr⟩ : ∃ r, r = rd_T46 rs (k : Int) := ⟨_, rfl⟩
        rw [← hr] at e0 e1 e2 l3 g3 l4 g4 HD
        clear hr l3 g3 l4
        simp only [Int.toNat_natCast] at e0 e1 e2
        have HG := Aside0.mk g4
        have d0 := pw_cell_below HX.out.1 e0
        have d1 := pw_cell_below HX.out.1 e1
        have d2 := pw_cell_below HX.out.1 e2
        clear e0 e1 e2 g4
        gi_wp2_with (gi_at_call 21; refine (atoms_in F (n - 1) h21 hro _ _ _ _ _ _ _ _).mono ?_; rintro e w' ⟨rfl, rfl⟩)
        have h1 : 1 ≤ n := by omega
        have hb46 := blk_new (wr.alloc (.cells #[.string r.f0.f0, .slice A3 r.f0.f1.length c3, .slice A4 r.f1.length c4] 46 (0, 0))) (.cells #[.string r.f0.f0, .slice A3 r.f0.f1.length c3, .slice A4 r.f1.length c4] 46 (0, 0))
        rw [World.size_alloc] at hb46
        have hX2 := (HX.out.alloc (.cells #[.string r.f0.f0, .slice A3 r.f0.f1.length c3, .slice A4 r.f1.length c4] 46 (0, 0))).alloc (.cells #[.string r.f0.f0, .slice A3 r.f0.f1.length c3, .slice A4 r.f1.length c4] 46 (0, 0))
        have hH2 := (HH.out.alloc (.cells #[.string r.f0.f0, .slice A3 r.f0.f1.length c3, .slice A4 r.f1.length c4] 46 (0, 0))).alloc (.cells #[.string r.f0.f0, .slice A3 r.f0.f1.length c3, .slice A4 r.f1.length c4] 46 (0, 0))
        have hJ2 := HO.out.alloc (.cells #[.string r.f0.f0, .slice A3 r.f0.f1.length c3, .slice A4 r.f1.length c4] 46 (0, 0)) (HO.out.alloc (.cells #[.string r.f0.f0, .slice A3 r.f0.f1.length c3, .slice A4 r.f1.length c4] 46 (0, 0)) HJ.out)
        obtain ⟨W2, hW2⟩ : ∃ W2, (wr.alloc (.cells #[.string r.f0.f0, .slice A3 r.f0.f1.length c3, .slice A4 r.f1.length c4] 46 (0, 0))).alloc (.cells #[.string r.f0.f0, .slice A3 r.f0.f1.length c3, .slice A4 r.f1.length c4] 46 (0, 0)) = W2 := ⟨_, rfl⟩
        have hs2 : wr.heap.size + 2 = W2.heap.size := by rw [← hW2]; simp
        rw [hW2] at hb46 hX2 hH2 hJ2 ⊢
        clear hW2 d0 d1 d2
        have hBw : B ≤ W2.heap.size := by
          have := (Array.getElem?_eq_some_iff.1 hX2.2.1).1
          have := HBW.out
          omega
        have hn0 : w0.heap.size ≤ W2.heap.size := hX2.1.size
        obtain ⟨P0, hP0⟩ : ∃ P0, P0 = ds ++ List.flatMap atomsD (List.take k rs) := ⟨_, rfl⟩
        rw [← hP0] at hJ2
        have HP0 := Aside0.mk hP0
        have HQ := Aside0.mk (show usesD ds rs = (P0 ++ atomsD r) ++ (rs.drop (k + 1)).flatMap atomsD from by
          rw [hP0, List.append_assoc, List.append_assoc, ← List.append_assoc (List.flatMap atomsD (List.take k rs)), ← HD.out, ← List.flatMap_append, List.take_append_drop]
          rfl)
        have HX2 := Aside0.mk hX2
        have HH2 := Aside0.mk hH2
        have HJ2 := Aside0.mk hJ2
        clear hP0 hX2 hH2 hJ2 HX HH HJ
        refine wpIn_rangeFunc_ownH hro h1 (gf := 22) (lb := #[.pointer (some ⟨wr.heap.size + 1, 0, none⟩)]) rfl h22 (enters_of Try.func22 (by kernel_rfl) rfl)
          (encs := Raw.enc) (Kp := Kp w0.heap.size) (S := fun ys => ys.map Raw.dec = atomsD r) (Sp := fun pre => pre.map Raw.dec <+: atomsD r) (N := (atomsD r).length) (w0 := W2)
          (fun l2 J2 Jx2 W3 hW3 hJ3 hJx3 hY3 h03 => atoms1_in F (n - 1) h22 hro hdp l2 (wr.heap.size + 1) w0 r A3 A4 c3 c4 J2 Jx2 HG.out hY3 (fun pre W o h => hJ3 pre W _ none h (World.grownBy_alloc W o none) (fun _ e => by cases e)) W3 ((hW3.block _ (by omega)).trans hb46) (HX2.out.1.trans (hW3.mono hn0)) h03)
          Kp.trans (Kp.put hn0) (Below.refl _ _) (fun _ => rfl)
          (fun pre W' => J (P0 ++ pre.map Raw.dec) W' ∧ Boxes w0 W.heap.size Bt #[.func (.yield l) #[] #[]] #[.slice A0 ds.length c0, .slice (some ad) rs.length c1] W' ∧ Held B Ds W')
          (fun c pre W' => c = .ret ∧ Jx (P0 ++ pre.map Raw.dec) W' ∧ Held B Ds W')
          (OwnFrom.and (own_at (ownFrom_later HO.out hBw) _) (OwnFrom.and (Boxes.own hn0) (Held.own HH2.out.lt)))
          (fun c => OwnFrom.and (ownFrom_pure _ _) (OwnFrom.and (own_at (ownFrom_later HOx.out hBw) _) (Held.own HH2.out.lt)))
          ⟨by simpa using HJ2.out, HX2.out, HH2.out⟩
          (fun x a' W' => ∃ Bx, W'.heap[Bx]? = some (.cells #[.string x.p, .slice x.A x.n x.c] 43 (0, 0)) ∧ a' = { tmps := #[.func (.yield l) #[] #[], .pointer (some ⟨Bt, 0, none⟩), .pointer (some ⟨W.heap.size, 0, none⟩), undef, u4, undef, .pointer (some ⟨wr.heap.size, 0, none⟩), .pointer (some ⟨Bx, 0, none⟩), .pointer (some ⟨Bt, 0, none⟩), .slice A0 ds.length c0, .int .i64 ds.length, .int .i64 ds.length, .bool false, u13, u14, u15, u16, u17, u18, u19, .pointer (some ⟨Bt, 1, none⟩), .slice (some ad) rs.length c1, .int .i64 rs.length, .int .i64 k, .bool true, .pointer (some (ad.add (k * 3))), .agg #[.string r.f0.f0, .slice A3 r.f0.f1.length c3, .slice A4 r.f1.length c4], .agg #[.string r.f0.f0, .slice A3 r.f0.f1.length c3, .slice A4 r.f1.length c4], .func (.func 22) #[] #[.pointer (some ⟨wr.heap.size + 1, 0, none⟩)], .agg #[.string x.p, .slice x.A x.n x.c], u30, u31, u32, u33, u34, u35, u36, u37, u38, u39], defers := [] })
          (fun x a' _ X Y row hs hg hr => by obtain ⟨Bx, h1, h2⟩ := hs; exact ⟨Bx, grownBy_blk h1 hg (fun r e => (hr r e).2), h2⟩)
          ?assign ?body ?done ?stop
        case assign =>
          rintro l2 pre x W3 K ⟨hj3, hx3, hh3⟩ hK
          have hnew := blk_new W3 (.cells #[.string x.p, .slice x.A x.n x.c] 43 (0, 0))
          have HJ3 := Aside0.mk hj3
          have HX3 := Aside0.mk hx3
          have HH3 := Aside0.mk hh3
          have HN := Aside0.mk hnew
          have HKK := Aside0.mk hK
          clear hj3 hx3 hh3 hK hnew
          dsimp only [Raw.enc]
          gi_wp2
          exact HKK.out _ _ ((KeepsOthers.alloc _ _).from _) ⟨(Below.refl _ W3).alloc HX3.out.1.size _, KT.alloc _ _⟩ ⟨HO.out.alloc _ HJ3.out, HX3.out.alloc _, HH3.out.alloc _⟩ ⟨_, HN.out, rfl⟩
        case body =>
          rintro l2 pre x a' W3 hl2 - ⟨hj3, hx3, hh3⟩ ⟨Bx, hbx, rfl⟩ hlx
          have d59 : W3.cell? ⟨W.heap.size, 0, none⟩ = some (.func (.yield l) #[] #[]) := (blk_cell hx3.2.1 0).trans rfl
          have b0 : W3.cell? ⟨Bx, 0, none⟩ = some (.string x.p) := (blk_cell hbx 0).trans rfl
          have b1 : W3.cell? ⟨Bx, 1, none⟩ = some (.slice x.A x.n x.c) := (blk_cell hbx 1).trans rfl
          obtain ⟨fn2, tmps2, assign2, body2, hy2, hR2⟩ := HY.out (n - 1 - 1 - 1) (P0 ++ pre.map Raw.dec) x.dec W3 hj3 (by rw [HQ.out]; simp; omega)
          dsimp only [D39.enc, Raw.dec] at hy2
          have HJ3 := Aside0.mk hj3
          have HX3 := Aside0.mk hx3
          have HH3 := Aside0.mk hh3
          clear hj3 hx3 hh3 hbx
          gi_wp2
          refine (roundIn_inRound l2 hR2).mono ?_
          clear hR2 hy2 d59 b0 b1
          rintro e W4 ⟨hkf, (⟨rfl, hJ4, hk4⟩ | ⟨rfl, hJx4⟩)⟩
          · have HJ4 := Aside0.mk hJ4
            have HK4 := Aside0.mk hk4
            have HF4 := Aside0.mk hkf
            clear hJ4 hk4 hkf
            gi_wp2
            refine ⟨keepsFrom_later HF4.out hBw, HK4.out, ?_, HX3.out.kp HK4.out, HH3.out.keeps HF4.out⟩
            have := HJ4.out
            simpa using this
          · have HX4 := Aside0.mk hJx4
            have HF4 := Aside0.mk hkf
            clear hJx4 hkf
            gi_wp2
            refine ⟨keepsFrom_later HF4.out hBw, rfl, ?_, HH3.out.keeps HF4.out⟩
            have := HX4.out
            simpa using this
        case done =>
          rintro D ys W3 hD hys ⟨hj3, hx3, hh3⟩ hK
          have HJ3 := Aside0.mk hj3
          have HX3 := Aside0.mk hx3
          have HH3 := Aside0.mk (hh3.cons HH2.out.lt hBw hD hK)
          have HYS := Aside0.mk hys
          clear hj3 hx3 hh3 hK hys
          gi_wp2
          refine ⟨⟨k + 1, D :: Ds, _, _, _, _, _, _, _, _, _, _, _, _, _, _, _, _, _, _, rfl, by omega, ?_, HX3.out, HH3.out⟩, by simp [intOf]; omega⟩
          have := HJ3.out
          rwa [HYS.out, HP0.out, List.append_assoc, ← HD.out] at this
        case stop =>
          rintro D c pre W3 hD hSp ⟨rfl, hx3, hh3⟩ hK
          have HX3 := Aside0.mk hx3
          have HH3 := Aside0.mk (hh3.cons HH2.out.lt hBw hD hK)
          have HSP := Aside0.mk hSp
          clear hx3 hh3 hK hSp
          gi_wp2
          refine Held.leaves (I := fun _ W => Jx (P0 ++ pre.map Raw.dec) W) (own_at HOx.out _) (fun W hi => ⟨_, results_none rfl _ _ _, ⟨_, rfl⟩, .inr ⟨_, ?_, hi⟩⟩) (D :: Ds) W3 HH3.out HX3.out
          rw [HQ.out]
          exact ((List.prefix_append_right_inj _).2 HSP.out).trans (List.prefix_append _ _)
      · obtain rfl : k = rs.length := by omega
        gi_wp2
        refine Held.leaves (I := fun _ W => J (usesD ds rs) W) (own_at HO.out _) (fun W hi => ⟨_, results_none rfl _ _ _, ⟨_, rfl⟩, .inl ⟨_, rfl, hi⟩⟩) Ds wr HH.out ?_
        have := HJ.out
        rwa [List.take_length] at this
end Go.Proofs.Ytpcadcmfdbhmhaa.P
