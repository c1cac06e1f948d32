/- arity.atoms: the head, then each positive or negative literal's atom; the contract of the function value, under whatever loop body keeps what was given and the boxes that it captures. -/
import Derived.Test.YtpcadcmfdbhmhaaPx0
import Derived.Test.YtpcadcmfdbhmhaaSeq
import Derived.Lib.Hide
import Derived.Shelf.Abstract
import Derived.Shelf.RegionOpen
import Derived.OwnWalkIn
import Derived.TacticsInMore
import Derived.LoopNIn
import Derived.LoopIn
namespace Go.Proofs.Ytpcadcmfdbhmhaa.P
open Go.RowKit Go.Shelf Go.Proofs.YtpcadcmfdbhmhaaW.PrintWords Go.Proofs.YtpcadcmfdbhmhaaW.PrintLast Go.Proofs.YtpcadcmfdbhmhaaW.PrintMore
attribute [local go_sem] Oper.semAt_some

/-- What the document counts as a use. -/
def isUse (l : S54) : Bool := decide (l.f0 = 1) || decide (l.f0 = 2)
def atomD (a : S43) : S39 := ⟨a.f0, a.f1.length⟩
def litsD (ls : List S54) : List S39 := (ls.filter isUse).map fun l => atomD l.f1
def atomsD (r : S46) : List S39 := atomD r.f0 :: litsD r.f1
def usesD (ds : List S39) (rs : List S46) : List S39 := ds ++ rs.flatMap atomsD

/-- An atom as it lies: its name, its terms' slice. -/
structure Raw where
  p : ByteArray
  A : Option Addr
  n : Nat
  c : Nat
def Raw.enc (x : Raw) : Array Value := #[.agg #[.string x.p, .slice x.A x.n x.c]]
def Raw.dec (x : Raw) : S39 := ⟨x.p, x.n⟩

/-- The boxes that the iterators capture lie as they lay. -/
def KT (W W' : World) : Prop := ∀ (B : Nat) (cs : Array Value) (t : TypeId), (t = 25 ∨ t = 46 ∨ t = 59 ∨ t = 63) → W.heap[B]? = some (.cells cs t (0, 0)) → W'.heap[B]? = some (.cells cs t (0, 0))
theorem KT.refl (W : World) : KT W W := fun _ _ _ _ h => h
theorem KT.trans {A B C : World} (h : KT A B) (k : KT B C) : KT A C := fun b cs t ht hb => k b cs t ht (h b cs t ht hb)
theorem KT.grown {W W' : World} {row : Option Nat} (hg : W.grownBy W' row) (hr : ∀ (k : Nat) (cs : Array Value) (t : TypeId), row = some k → W.heap[k]? = some (.cells cs t (0, 0)) → ¬ (t = 25 ∨ t = 46 ∨ t = 59 ∨ t = 63)) : KT W W' :=
  fun B cs t ht hb => (hg.block B (Array.getElem?_eq_some_iff.1 hb).1 (fun e => hr B cs t e.symm hb ht)).trans hb
theorem KT.alloc (W : World) (o : Obj) : KT W (W.alloc o) := KT.grown (World.grownBy_alloc W o none) (fun _ _ _ e => by cases e)
theorem KT.below {W W' : World} (h : Below W.heap.size W W') : KT W W' := fun B _ _ _ hb => (h.block B (Array.getElem?_eq_some_iff.1 hb).1).trans hb
/-- What a round keeps. -/
def Kp (n₀ : Nat) (W W' : World) : Prop := Below n₀ W W' ∧ KT W W'
theorem Kp.trans {n₀ : Nat} {A B C : World} (h : Kp n₀ A B) (k : Kp n₀ B C) : Kp n₀ A C := ⟨h.1.trans k.1, h.2.trans k.2⟩
theorem Kp.put {n₀ : Nat} {w : World} (hn : n₀ ≤ w.heap.size) (W : World) (l : Nat) (o o' : Obj) (hl : w.heap.size ≤ l) (h : W.heap[l]? = some o) (hc : o.isCells = false) (hw : o.isWalk = false) : Kp n₀ W (W.putObj l o') :=
  ⟨belowK_b hn W l o o' hl h hc hw, KT.grown (grownBy_putObj' W l o') (fun k cs t e hk _ => by cases e; rw [h] at hk; cases hk; cases hc)⟩

theorem litsD_append (a b : List S54) : litsD (a ++ b) = litsD a ++ litsD b := by simp [litsD]
theorem wrap_succ (k : Nat) (h : k < 9223372036854775807) : wrap64 ((k : Int) + 1) = ((k + 1 : Nat) : Int) := by unfold wrap64; omega
theorem rd54 {l : List S54} {k : Nat} (hk : k < l.length) : litsD (l.take (k + 1)) = litsD (l.take k) ++ (if isUse (rd_T54 l (k : Int)) then [atomD (rd_T54 l (k : Int)).f1] else []) := by
  have e : rd_T54 l (k : Int) = l[k] := by simp [rd_T54, List.getD_eq_getElem?_getD, hk]
  rw [e, List.take_succ_eq_append_getElem hk]
  simp only [litsD, List.filter_append, List.map_append]
  cases h : isUse l[k] <;> simp [h]

set_option maxRecDepth 100000 in
set_option maxHeartbeats 4000000 in
theorem atoms1_in (F : Fence) (n : Nat) (h22 : F.fn 22) (hro : F.round = none) (hdp : F.depth = none) (l Bt : Nat) (w0 : World) (r : S46) (A1 A2 : Option Addr) (c1 c2 : Nat) (J Jx : List Raw → World → Prop)
    (hC : Kd.C k54 w0 A2 r.f1.length r.f1)
    (hY : ∀ pre x W, J pre W → pre.length < (atomsD r).length → YieldAt F (n - 1) Try.prog l x.enc W fun e W' =>
      (e = .returned (.bool true) ∧ J (pre ++ [x]) W' ∧ Kp w0.heap.size W W') ∨ (e = .returned (.bool false) ∧ Jx (pre ++ [x]) W'))
    (hJ : ∀ pre W (o : Obj), J pre W → J pre (W.alloc o))
    (W : World) (hb : W.heap[Bt]? = some (.cells #[.string r.f0.f0, .slice A1 r.f0.f1.length c1, .slice A2 r.f1.length c2] 46 (0, 0))) (hW : Below w0.heap.size w0 W) (h0 : J [] W) :
    CallsIn F n Try.prog 22 #[.func (.yield l) #[] #[], .pointer (some ⟨Bt, 0, none⟩)] W fun e W' => (∃ v, e = .returned v) ∧
      ((∃ ys, ys.map Raw.dec = atomsD r ∧ J ys W') ∨ (∃ pre, pre.map Raw.dec <+: atomsD r ∧ Jx pre W')) := by
  have hb0 : W.cell? ⟨Bt, 0, none⟩ = some (.string r.f0.f0) := (blk_cell hb 0).trans rfl
  have hb1 : W.cell? ⟨Bt, 1, none⟩ = some (.slice A1 r.f0.f1.length c1) := (blk_cell hb 1).trans rfl
  have HY := Aside0.mk hY
  obtain ⟨fn, tmps, assign, body, hy, hR⟩ := hY [] ⟨r.f0.f0, A1, r.f0.f1.length, c1⟩ W h0 (by simp [atomsD])
  dsimp only [Raw.enc] at hy
  have HB := Aside0.mk hb
  have HC := Aside0.mk hC
  have HW := Aside0.mk hW
  have H0 := Aside0.mk h0
  clear hY hb hC hW h0
  have hlen : r.f1.length ≤ 9223372036854775807 := HC.out.2.1
  refine callsIn_of_wp Try.func22 rfl h22 ?_ hro
  simp only [Try.ntmps22, List.size_toArray, List.length_cons, List.length_nil, Nat.reduceAdd, Nat.reduceSub, Array.replicate_succ, Array.replicate_zero, List.push_toArray, List.append_toArray, List.nil_append, List.cons_append]
  gi_wp2
  refine hR.mono ?_
  clear hR hy
  rintro e W1 (⟨rfl, hJ1, hk1⟩ | ⟨rfl, hJx1⟩)
  · have hB1 := hk1.2 _ _ _ (by simp) HB.out
    have hc2 : W1.cell? ⟨Bt, 2, none⟩ = some (.slice A2 r.f1.length c2) := (blk_cell hB1 2).trans rfl
    have HJ1 := Aside0.mk hJ1
    have HW1 := Aside0.mk (HW.out.trans hk1.1)
    clear hJ1 hk1 hB1 hb0 hb1
    gi_wp2
    gi_loopw [13] (fun i wr => ∃ (k : Nat) (pre : List Raw), k ≤ r.f1.length ∧ i = .int .i64 k ∧ pre.map Raw.dec = atomD r.f0 :: litsD (r.f1.take k) ∧ J pre wr ∧ Below w0.heap.size w0 wr) (fun i _ => r.f1.length - (intOf i).toNat)
    case atStart => exact ⟨0, _, by omega, rfl, rfl, HJ1.out, HW1.out⟩
    case round =>
      clear HJ1 HW1 H0 HW
      obtain ⟨k, pre, hk, rfl, hp, hj, hb⟩ := hrel
      have HP := Aside0.mk hp
      have HJ := Aside0.mk hj
      have HB0 := Aside0.mk hb
      clear hp hj hb
      by_cases hlt : k < r.f1.length
      · obtain ⟨ad, A3, c3, rfl, e0, e1, e2, e3, e4, e5, e6, e7, e8, e9, e10, e11, e12, e13, -, -⟩ := at_T54 HC.out (k : Int) (by omega) (by omega)
        have HD := Aside0.mk (rd54 hlt)
        obtain ⟨d, hd⟩ : ∃ d, d = rd_T54 r.f1 (k : Int) := ⟨_, rfl⟩
        rw [← hd] at e0 e1 e2 e3 e4 e5 e6 e7 e8 e9 e10 e11 e12 e13 HD
        clear hd
        simp only [Int.toNat_natCast] at e0 e1 e2 e3 e4 e5 e6 e7 e8 e9 e10 e11 e12 e13
        have d0 := pw_cell_below HB0.out e0
        have d1 := pw_cell_below HB0.out e1
        have d2 := pw_cell_below HB0.out e2
        have d3 := pw_cell_below HB0.out e3
        have d4 := pw_cell_below HB0.out e4
        have d5 := pw_cell_below HB0.out e5
        have d6 := pw_cell_below HB0.out e6
        have d7 := pw_cell_below HB0.out e7
        have d8 := pw_cell_below HB0.out e8
        have d9 := pw_cell_below HB0.out e9
        have d10 := pw_cell_below HB0.out e10
        have d11 := pw_cell_below HB0.out e11
        have d12 := pw_cell_below HB0.out e12
        have d13 := pw_cell_below HB0.out e13
        clear e0 e1 e2 e3 e4 e5 e6 e7 e8 e9 e10 e11 e12 e13
        by_cases hq1 : d.f0 = 1
        · have HU := Aside0.mk (show isUse d = true by simp [isUse, hq1])
          rw [hq1] at d0
          clear hq1
          obtain ⟨WB, hWB⟩ : ∃ WB, WB = wr.alloc (.cells #[.int .i64 1, .string d.f1.f0, .slice A3 d.f1.f1.length c3, .string d.f2, .bool d.f3.f0, .string d.f3.f1, .bool d.f3.f2.f0, .string d.f3.f2.f1, .int .i64 d.f3.f2.f2, .bool d.f4.f0, .string d.f4.f1, .bool d.f4.f2.f0, .string d.f4.f2.f1, .int .i64 d.f4.f2.f2] 54) := ⟨_, rfl⟩
          have hlenp : pre.length < (atomsD r).length := by
            have h1 : pre.length = (List.map Raw.dec pre).length := by simp
            have h2 : litsD r.f1 = litsD (List.take (k + 1) r.f1) ++ litsD (List.drop (k + 1) r.f1) := by rw [← litsD_append, List.take_append_drop]
            rw [h1, HP.out, atomsD, List.length_cons, List.length_cons, h2, HD.out, HU.out, if_pos rfl]
            simp
          obtain ⟨fn2, tmps2, assign2, body2, hy2, hR2⟩ := HY.out pre ⟨d.f1.f0, A3, d.f1.f1.length, c3⟩ WB (by rw [hWB]; exact hJ _ _ _ HJ.out) hlenp
          dsimp only [Raw.enc] at hy2
          have HBB := Aside0.mk (show Below w0.heap.size w0 WB from by rw [hWB]; exact below_alloc HB0.out _)
          have HWB := Aside0.mk hWB
          rw [hWB] at hy2
          clear hlenp hWB
          gi_wp2
          rw [← HWB.out]
          refine hR2.mono ?_
          clear hR2 hy2 d0 d1 d2 d3 d4 d5 d6 d7 d8 d9 d10 d11 d12 d13
          rintro e W3 (⟨rfl, hJ3, hk3⟩ | ⟨rfl, hJx3⟩)
          · have HJ3 := Aside0.mk hJ3
            have HK3 := Aside0.mk hk3
            clear hJ3 hk3
            gi_wp2
            go_roundw
            case rel =>
              refine ⟨k + 1, _, by omega, by simp, ?_, HJ3.out, HBB.out.trans HK3.out.1⟩
              rw [List.map_append, HP.out, HD.out, HU.out, if_pos rfl]
              rfl
            case measure => simp [intOf]; omega
          · have HX3 := Aside0.mk hJx3
            clear hJx3
            gi_wp2
            refine bodyPost_ret (results_none rfl _ _ _) rfl ?_
            refine ⟨⟨_, rfl⟩, .inr ⟨_, ?_, HX3.out⟩⟩
            rw [List.map_append, HP.out]
            have h2 : litsD r.f1 = litsD (List.take (k + 1) r.f1) ++ litsD (List.drop (k + 1) r.f1) := by
              rw [← litsD_append, List.take_append_drop]
            rw [atomsD, h2, HD.out, HU.out, if_pos rfl]
            exact ⟨litsD (List.drop (k + 1) r.f1), by simp [Raw.dec, atomD]⟩
        · by_cases hq2 : d.f0 = 2
          · have HU := Aside0.mk (show isUse d = true by simp [isUse, hq2])
            rw [hq2] at d0
            clear hq2
            obtain ⟨WB, hWB⟩ : ∃ WB, WB = wr.alloc (.cells #[.int .i64 2, .string d.f1.f0, .slice A3 d.f1.f1.length c3, .string d.f2, .bool d.f3.f0, .string d.f3.f1, .bool d.f3.f2.f0, .string d.f3.f2.f1, .int .i64 d.f3.f2.f2, .bool d.f4.f0, .string d.f4.f1, .bool d.f4.f2.f0, .string d.f4.f2.f1, .int .i64 d.f4.f2.f2] 54) := ⟨_, rfl⟩
            have hlenp : pre.length < (atomsD r).length := by
              have h1 : pre.length = (List.map Raw.dec pre).length := by simp
              have h2 : litsD r.f1 = litsD (List.take (k + 1) r.f1) ++ litsD (List.drop (k + 1) r.f1) := by rw [← litsD_append, List.take_append_drop]
              rw [h1, HP.out, atomsD, List.length_cons, List.length_cons, h2, HD.out, HU.out, if_pos rfl]
              simp
            obtain ⟨fn2, tmps2, assign2, body2, hy2, hR2⟩ := HY.out pre ⟨d.f1.f0, A3, d.f1.f1.length, c3⟩ WB (by rw [hWB]; exact hJ _ _ _ HJ.out) hlenp
            dsimp only [Raw.enc] at hy2
            have HBB := Aside0.mk (show Below w0.heap.size w0 WB from by rw [hWB]; exact below_alloc HB0.out _)
            have HWB := Aside0.mk hWB
            rw [hWB] at hy2
            clear hlenp hWB
            gi_wp2
            rw [← HWB.out]
            refine hR2.mono ?_
            clear hR2 hy2 d0 d1 d2 d3 d4 d5 d6 d7 d8 d9 d10 d11 d12 d13
            rintro e W3 (⟨rfl, hJ3, hk3⟩ | ⟨rfl, hJx3⟩)
            · have HJ3 := Aside0.mk hJ3
              have HK3 := Aside0.mk hk3
              clear hJ3 hk3
              gi_wp2
              go_roundw
              case rel =>
                refine ⟨k + 1, _, by omega, by simp, ?_, HJ3.out, HBB.out.trans HK3.out.1⟩
                rw [List.map_append, HP.out, HD.out, HU.out, if_pos rfl]
                rfl
              case measure => simp [intOf]; omega
            · have HX3 := Aside0.mk hJx3
              clear hJx3
              gi_wp2
              refine bodyPost_ret (results_none rfl _ _ _) rfl ?_
              refine ⟨⟨_, rfl⟩, .inr ⟨_, ?_, HX3.out⟩⟩
              rw [List.map_append, HP.out]
              have h2 : litsD r.f1 = litsD (List.take (k + 1) r.f1) ++ litsD (List.drop (k + 1) r.f1) := by
                rw [← litsD_append, List.take_append_drop]
              rw [atomsD, h2, HD.out, HU.out, if_pos rfl]
              exact ⟨litsD (List.drop (k + 1) r.f1), by simp [Raw.dec, atomD]⟩
          · have q1 : decide (d.f0 = 1) = false := by simpa using hq1
            have q2 : decide (d.f0 = 2) = false := by simpa using hq2
            have HU := Aside0.mk (show isUse d = false by simp [isUse, q1, q2])
            clear q1 q2
            gi_wp2
            all_goals (first | (exfalso; exact hq2 (by assumption)) | (exfalso; exact hq1 (by assumption)) | skip)
            refine ⟨fun _ h => (by cases h), ?_⟩
            gi_wp2
            go_roundw
            case rel => exact ⟨k + 1, pre, by omega, by simp, by rw [HP.out, HD.out, HU.out]; simp, hJ _ _ _ HJ.out, below_alloc HB0.out _⟩
            case measure => simp [intOf]; omega
      · obtain rfl : k = r.f1.length := by omega
        have HPP := Aside0.mk (HP.out.trans (by rw [List.take_length]))
        clear HP
        gi_wp2
        go_end0
        exact ⟨⟨_, rfl⟩, .inl ⟨pre, HPP.out, HJ.out⟩⟩
  · gi_wp2
    refine bodyPost_ret (results_none rfl _ _ _) rfl ?_
    exact ⟨⟨_, rfl⟩, .inr ⟨_, ⟨litsD r.f1, rfl⟩, hJx1⟩⟩
end Go.Proofs.Ytpcadcmfdbhmhaa.P
