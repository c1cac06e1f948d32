/- token.Scan: a text's tokens. -/
import Derived.Test.YtdfjhhhbkgelaaaGreatDoorOne
namespace Go.Proofs.YtdfjhhhbkgelaaaGreatDoor.V
set_option linter.unusedVariables false
set_option linter.unusedSimpArgs false
open Go.RowKit

/-- Tokens as they lie in cells. -/
def tokC (p : TP') : List Value := [.int .i64 (p.1.k : Int), .string ⟨p.1.s.toArray⟩, .int .i64 p.1.n, .bool p.1.q, .int .i64 (p.2 : Int)]
def tokCells (l : List TP') : List Value := l.flatMap tokC
theorem tokCells_length (l : List TP') : (tokCells l).length = l.length * 5 := by
  induction l with
  | nil => rfl
  | cons x l ih =>
    unfold tokCells at *
    rw [List.flatMap_cons, List.length_append, ih]
    simp [tokC]
    omega
theorem tokCells_snoc (l : List TP') (p : TP') : tokCells (l ++ [p]) = tokCells l ++ tokC p := by simp [tokCells]
theorem tok_info : (Tryz.prog.info? 35).map (fun i => (i.zero, i.size, i.bytes)) = some (some (.agg #[.int .i64 0, .string ⟨#[]⟩, .int .i64 0, .bool false, .int .i64 0]), 5, 48) := by kernel_rfl
theorem oneL_bad {c : UInt8} {t : List UInt8} {e : Nat} (h : oneL c t = .bad e) : e = 2 ∨ e = 3 ∨ e = 4 := by
  unfold oneL at h
  repeat' split at h
  all_goals first
    | (unfold namedL at h; split at h <;> simp at h <;> omega)
    | (unfold numL at h; split at h <;> simp at h <;> omega)
    | (unfold markL at h; repeat' split at h; all_goals (simp at h; try omega))
    | (cases hq : quotL t <;> rw [hq] at h <;> simp [qres] at h <;> omega)

theorem skip_idem (l : List UInt8) : ∀ m, skipR false (skipR m l) = skipR m l := by
  induction l with
  | nil => intro m; simp [skipR]
  | cons c t ih =>
    intro m
    rw [skipR]
    split
    · rename_i h
      unfold skipR
      rw [if_pos]
      simp_all
    · exact ih _
theorem app_nil (s : Scan) : Scan.app [] s = s := by cases s <;> rfl
theorem grown_strip {w w' : World} {o : Obj} (h : (w.alloc o).grownBy w' (some w.heap.size)) : w.grownBy w' none :=
  ⟨h.os, h.tape, h.output, Nat.le_trans (by simp) h.size, fun k hk _ => (h.block k (by simp; omega) (by simp; omega)).trans (Below.heap_alloc _ _ _ hk)⟩
theorem below_of_grown {w w' : World} (h : w.grownBy w' none) : Below w.heap.size w w' := ⟨h.os, h.tape, h.output, h.size, fun k hk => h.block k hk (by simp)⟩
theorem o_base {W : World} {B B' e z n : Nat} {v : Value} {xs : List Value} (h : W.ownsRow B e z v n xs) (hB : B' ≤ B) : W.ownsRow B' e z v n xs := by
  refine ⟨h.1, ?_⟩
  rcases h.2 with hn | ⟨g, cap, cur, hv, hb, rest⟩
  · exact .inl hn
  · exact .inr ⟨g, cap, cur, hv, by omega, rest⟩

/-- What Scan hands back. -/
def ScanIs (s : ByteArray) (w : World) (e : Ending) (w' : World) : Prop :=
  Below w.heap.size w w' ∧ match scanL s.data.toList with
    | .bad a n => e = .returned (.tuple #[.slice none 0 0, .int .i64 (a : Int), .int .i64 (n : Int)])
    | .ok l => ∃ v, e = .returned (.tuple #[v, .int .i64 0, .int .i64 0]) ∧ w'.ownsRow w.heap.size 35 5 v l.length (tokCells l) ∧ (l = [] → v = .slice none 0 0) ∧ l.length ≤ 65536

/-- What Scan keeps, round by round. -/
structure ScanW (s : ByteArray) (k : Nat) (w W : World) (v : Value) (done : List TP') : Prop where
  hx : IsText w.heap.size s k W
  hk : k ≤ s.size
  hs : skipR false (s.data.toList.drop k) = s.data.toList.drop k
  ho : W.ownsRow (w.heap.size + 1) 35 5 v done.length (tokCells done)
  hz : done = [] → v = .slice none 0 0
  hn : done.length ≤ k
  hg : w.grownBy W none
  he : ErrW W
  hq : scanT s.size s.data.toList = (scanT s.size (s.data.toList.drop k)).app done

set_option maxRecDepth 100000 in
set_option maxHeartbeats 8000000 in
theorem scan_calls (s : ByteArray) (w : World) (hs : s.size ≤ 9223372036854775807) (hE : ErrW w) :
    Calls Tryz.prog 11 #[.string s] w (ScanIs s w) := by
  have hls : s.data.toList.length = s.size := by simp
  by_cases hbig : 65536 < s.size
  · have hd : decide (65536 < (s.size : Int)) = true := decide_eq_true (by omega)
    have HQ := Lib.hid (show scanL s.data.toList = .bad 0 4 from if_pos (by omega))
    clear hls hbig
    go_enter Tryz.func11, Tryz.ntmps11
    go_wp2_with fail
    refine bodyPost_ret (v := .tuple #[.slice none 0 0, .int .i64 0, .int .i64 4]) (by simp [results, Tryz.results11, go_sem]) rfl ⟨Below.refl _ _, ?_⟩
    rw [HQ.out]
    rfl
  · have hd : decide (65536 < (s.size : Int)) = false := decide_eq_false (by omega)
    have hs2 : s.size ≤ 65536 := by omega
    have HSL := Lib.hid (show scanL s.data.toList = scanT s.size s.data.toList by
      unfold scanL scanT
      rw [if_neg (by omega), hls])
    have HX := Lib.hid (show IsText w.heap.size s 0 (w.alloc (.cells #[.string s, .int .i64 0] 40)) from heap_alloc_new w _)
    have HE := Lib.hid (hE.below ((Below.refl w.heap.size w).alloc (Nat.le_refl _) (.cells #[.string s, .int .i64 0] 40)))
    have HE0 := Lib.hid hE
    clear hls hE hbig
    go_enter Tryz.func11, Tryz.ntmps11
    go_wp2_with (go_at_call 16; ((with_reducible refine (skip_calls _ s 0 _ HX.out (Nat.zero_le _) hs2).mono ?_); rintro e w1 ⟨rfl, b, _, hb, hsk, ht1, hg1⟩; have HSK := Lib.hid hsk; have HB := Lib.hid hb; have HT1 := Lib.hid ht1; have HG1 := Lib.hid hg1; clear hsk hb ht1 hg1))
    have hb := HB.out
    go_loopw [5] (fun v wr => ∃ k done, ScanW s k w wr v done) (fun _ wr => s.size - textAt w.heap.size wr)
    case atStart =>
      refine ⟨b, [], ⟨HT1.out, HB.out, ?_, World.ownsRow_nil _ _ _ _, fun _ => rfl, Nat.zero_le _, ?_, HE.out.grown HX.out HG1.out, ?_⟩⟩
      · rw [HSK.out, skip_idem]
      · exact grown_strip HG1.out
      · rw [HSK.out, List.drop_zero, scanT_skip, app_nil]
    case round =>
      obtain ⟨k, done, hW⟩ := hrel
      obtain ⟨A, c, rfl⟩ := o_slice hW.ho
      have HW := Lib.hid hW
      have c0 := hW.hx.cell0
      have c1 := hW.hx.cell1
      clear hW hb
      by_cases hkl : k < s.size
      · have hdk : decide ((k : Int) < (s.size : Int)) = true := decide_eq_true (by omega)
        have hstay := HW.out.hs
        rw [drop_at hkl] at hstay
        cases ho : oneL s[k] (s.data.toList.drop (k + 1)) with
        | bad m =>
          have HO := Lib.hid ho
          have hm : ((m : Int) == 0) = false := by
            have := oneL_bad ho
            simp
            omega
          have HF := Lib.hid (show scanL s.data.toList = .bad k m by
            rw [HSL.out, HW.out.hq, scanT_bad _ _ s[k] (s.data.toList.drop (k + 1)) m (by rw [drop_at hkl]; exact hstay) ho]
            simp [Scan.app]
            omega)
          clear hstay ho
          go_wp2_with (go_at_call 17; ((with_reducible refine (one_calls _ s k _ HW.out.hx hkl hs2 HW.out.he).mono ?_); rintro e w2 ho2; rw [HO.out] at ho2; obtain ⟨kk, tt, nn, qq, er, rfl, hg2, hv⟩ := ho2.cells; obtain ⟨rfl, rfl, rfl, rfl, rfl, _⟩ := hv; have HG2 := Lib.hid hg2; clear hg2 ho2))
          refine bodyPost_ret (v := .tuple #[.slice none 0 0, .int .i64 (k : Int), .int .i64 (m : Int)]) (by simp [results, Tryz.results11, go_sem]) rfl ⟨below_of_grown (grown_trans (o_grown HW.out.hg HG2.out (fun j hj => by cases hj; exact Nat.le_refl _)) (World.grownBy_alloc _ _ _)), ?_⟩
          rw [HF.out]
        | tok u r =>
          have HO := Lib.hid ho
          have HF := Lib.hid (show scanT s.size s.data.toList = (scanT s.size r).app (done ++ [(u, k)]) by
            rw [HW.out.hq, scanT_tok _ _ s[k] (s.data.toList.drop (k + 1)) u r (by rw [drop_at hkl]; exact hstay) ho, app_cons]
            have e : s.size - (s[k] :: s.data.toList.drop (k + 1)).length = k := by simp; omega
            rw [e])
          have HLEN := Lib.hid (show r.length < s.size - k by
            have := oneL_lt _ _ _ _ ho
            simp at this
            omega)
          clear hstay ho
          go_wp2_with (first
            | (go_at_call 17; ((with_reducible refine (one_calls _ s k _ HW.out.hx hkl hs2 HW.out.he).mono ?_); rintro e w2 ho2; rw [HO.out] at ho2; obtain ⟨kk, tt, nn, qq, er, rfl, hg2, hv⟩ := ho2.cells; obtain ⟨rfl, rfl, rfl, rfl, rfl, b2, hb2, hr2, ht2⟩ := hv; have HG2 := Lib.hid hg2; have HB2 := Lib.hid hb2; have HR2 := Lib.hid hr2; have HT2 := Lib.hid ht2; clear hg2 ho2 hb2 hr2 ht2))
            | (at_builtin; refine RowKit.Hid.out ?_))
          refine Lib.hid ?_
          have hXne : some w.heap.size ≠ Value.ownBlock (.slice A done.length c) := fun e => by have := o_from HW.out.ho _ e.symm; omega
          have HGA := Lib.hid (grown_trans HG2.out (World.grownBy_alloc w2 (.cells #[.int .i64 (u.k : Int), .string ⟨u.s.toArray⟩, .int .i64 u.n, .bool u.q, .int .i64 (k : Int)] 35) (some w.heap.size)))
          refine o_app (W := w2.alloc (.cells #[.int .i64 (u.k : Int), .string ⟨u.s.toArray⟩, .int .i64 u.n, .bool u.q, .int .i64 (k : Int)] 35)) rfl (.tmp 42) (.tmp 44) 23 35 rfl (.agg #[.int .i64 0, .string ⟨#[]⟩, .int .i64 0, .bool false, .int .i64 0]) 5 48 Tryz.underlying23 tok_info rfl (by decide) (by decide) #[.int .i64 (u.k : Int), .string ⟨u.s.toArray⟩, .int .i64 u.n, .bool u.q, .int .i64 (k : Int)] rfl (by intro v hv; simp at hv; rcases hv with rfl | rfl | rfl | rfl | rfl <;> rfl) (.slice A done.length c) done.length (tokCells done) (by rfl) (o_keep HW.out.ho HGA.out (by omega)) (by simp; rfl) (by have := HW.out.hn; have := HW.out.hk; omega) (by have := HGA.out.size; have := HW.out.hx.lt; omega) ?_
          intro A2 c2 W3 ho3 hg3
          have HG3 := Lib.hid hg3
          have HO3 := Lib.hid (show W3.ownsRow (w.heap.size + 1) 35 5 (.slice A2 (done.length + 1) c2) (done.length + 1) (tokCells (done ++ [(u, k)])) by rw [tokCells_snoc]; exact ho3)
          have HT3 := Lib.hid ((HT2.out.grown (World.grownBy_alloc w2 (.cells #[.int .i64 (u.k : Int), .string ⟨u.s.toArray⟩, .int .i64 u.n, .bool u.q, .int .i64 (k : Int)] 35) none) (by simp)).grown hg3 hXne)
          have HGW := Lib.hid (o_grown (o_grown HW.out.hg HGA.out (fun j hj => by cases hj; exact Nat.le_refl _)) hg3 (fun j hj => by have := o_from HW.out.ho _ hj; omega))
          have HBK := Lib.hid (show k < b2 by
            have h1 := HLEN.out
            have h2 := congrArg List.length HR2.out
            simp at h2
            omega)
          clear ho3 hg3
          go_wp2_with (go_at_call 16; ((with_reducible refine (skip_calls _ s b2 _ HT3.out HB2.out hs2).mono ?_); rintro e w4 ⟨rfl, b4, hb24, hb4, hsk, ht4, hg4⟩; have HSK := Lib.hid hsk; have HB4 := Lib.hid hb4; have HB24 := Lib.hid hb24; have HT4 := Lib.hid ht4; have HG4 := Lib.hid hg4; clear hsk hb4 hb24 ht4 hg4))
          go_roundw
          case rel =>
            refine ⟨b4, done ++ [(u, k)], ⟨HT4.out, HB4.out, by rw [HSK.out, skip_idem], ?_, fun e => by simp at e, ?_, ?_, HE0.out.below (below_of_grown (o_grown HGW.out HG4.out (fun j hj => by cases hj; exact Nat.le_refl _))), ?_⟩⟩
            · rw [List.length_append, List.length_singleton]
              exact o_keep HO3.out HG4.out (by omega)
            · have h1 := HBK.out
              have h2 := HB24.out
              have h3 := HW.out.hn
              simp
              omega
            · exact o_grown HGW.out HG4.out (fun j hj => by cases hj; exact Nat.le_refl _)
            · rw [HF.out, HSK.out, scanT_skip, HR2.out]
          case measure =>
            have h1 := HBK.out
            have h2 := HB24.out
            rw [HT4.out.textAt, HW.out.hx.textAt]
            omega
      · have hdk : decide ((k : Int) < (s.size : Int)) = false := decide_eq_false (by omega)
        have HF := Lib.hid (show scanL s.data.toList = .ok done by
          rw [HSL.out, HW.out.hq, drop_end (by omega), scanT_nil _ _ rfl]
          simp [Scan.app])
        go_wp2_with fail
        refine bodyPost_ret (v := .tuple #[.slice A done.length c, .int .i64 0, .int .i64 0]) (by simp [results, Tryz.results11, go_sem]) rfl ⟨below_of_grown HW.out.hg, ?_⟩
        rw [HF.out]
        exact ⟨_, rfl, o_base HW.out.ho (Nat.le_succ _), HW.out.hz, by have := HW.out.hn; have := HW.out.hk; omega⟩
end Go.Proofs.YtdfjhhhbkgelaaaGreatDoor.V
