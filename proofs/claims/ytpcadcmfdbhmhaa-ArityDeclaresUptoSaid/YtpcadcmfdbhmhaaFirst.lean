/- ArityFirst: for every program that fits and every rule, the law returns true and all that was there lies as it lay. -/
import Derived.Test.YtpcadcmfdbhmhaaMix
import Derived.Test.YtpcadcmfdbhmhaaLists
import Derived.Deep.DeepCutAuto
namespace Go.Proofs.Ytpcadcmfdbhmhaa.P
open Go.RowKit Go.Proofs.YtpcadcmfdbhmhaaW.PrintWords Go.Proofs.YtpcadcmfdbhmhaaW.PrintLast Go.Proofs.YtpcadcmfdbhmhaaW.PrintMore

/-- What the second answer lies as. -/
def Second (w2 : World) (M : List S39) (p e : Int) (s9 s10 s11 : Value) (W : World) : Prop :=
  ∃ (AM : Option Addr) (cM : Nat), s9 = .slice AM M.length cM ∧ s10 = .int .i64 p ∧ s11 = .int .i64 e ∧ M.length ≤ cM ∧ Kd.C k39 W AM M.length M ∧ Below w2.heap.size w2 W
theorem same_calls (A0 : Option Addr) (c0 n0 : Nat) (l0 : List S39) (A1 : Option Addr) (c1 : Nat) (l1 : List S39) (w : World) (hr0 : Kd.C k39 w A0 l0.length l0) (hc0 : n0 ≤ c0) (hn0 : n0 = l0.length) (hr1 : Kd.C k39 w A1 l1.length l1) (hc1 : l1.length ≤ c1) (hl : l0.length ≤ 1000000000000000) (h : l0 = l1) :
    Calls Try.prog 14 #[.slice A0 n0 c0, .slice A1 l1.length c1] w fun e w' => e = .returned (.bool true) ∧ Below w.heap.size w w' := by
  subst hn0
  have hs := same_ev (a := l0) (b := l1) hl
  rw [decide_eq_true h] at hs
  obtain ⟨k, hk⟩ := hs.rounds
  refine (lambrequinref08_Same.calls k A0 c0 l0 A1 c1 l1 true w hr0 hc0 hr1 hc1 hk).mono ?_
  rintro e w' ⟨rfl, hd⟩
  exact ⟨rfl, drawn0_below hd⟩
theorem uses_calls (A : Option Addr) (c : Nat) (ds : List S39) (B : Option Addr) (c' : Nat) (rs : List S46) (w : World) (hA : Kd.C k39 w A ds.length ds) (hc : ds.length ≤ c) (hB : Kd.C k46 w B rs.length rs) (hc' : rs.length ≤ c') (h : Fits ds rs) :
    Calls Try.prog 15 #[.agg #[.slice A ds.length c, .slice B rs.length c']] w fun e w' => ∃ AU cU, e = .returned (.slice AU (usesD ds rs).length cU) ∧ Below w.heap.size w w' := by
  obtain ⟨k, hk⟩ := (uses_ev h).rounds
  refine (lambrequinref08_Uses.calls k A c ds B c' rs _ w hA hc hB hc' hk).mono ?_
  rintro e w' ⟨v, rfl, hR, hb⟩
  obtain ⟨AU, cU, rfl, _, _⟩ := Kd.R_reads hR
  exact ⟨AU, cU, rfl, hb⟩

set_option maxRecDepth 100000 in
set_option maxHeartbeats 8000000 in
theorem first_walk (A : Option Addr) (c : Nat) (ds : List S39) (B : Option Addr) (c' : Nat) (rs : List S46) (r : S46) (rA : Option Addr) (rc : Nat) (rB : Option Addr) (rd : Nat) (w : World) (hA : Kd.C k39 w A ds.length ds) (hc : ds.length ≤ c) (hB : Kd.C k46 w B rs.length rs) (hc' : rs.length ≤ c') (h : Fits ds rs)
    (hrA : Kd.C k52 w rA r.f0.f1.length r.f0.f1) (hrc : r.f0.f1.length ≤ rc) (hrB : Kd.C k54 w rB r.f1.length r.f1) (hrd : r.f1.length ≤ rd) :
    Calls Try.prog 7 #[.agg #[.slice A ds.length c, .slice B rs.length c'], .agg #[.string r.f0.f0, .slice rA r.f0.f1.length rc, .slice rB r.f1.length rd]] w fun e w' => e = .returned (.bool true) ∧ Below w.heap.size w w' := by
  have HA := Aside0.mk hA
  have HB := Aside0.mk hB
  have HF := Aside0.mk h
  have HRA := Aside0.mk hrA
  have HRB := Aside0.mk hrB
  have hrl : r.f1.length ≤ 9223372036854775807 := hrB.2.1
  clear hA hB h hrA hrB
  have hb := two_first w (.cells #[.slice A ds.length c, .slice B rs.length c'] 25) (.cells #[.string r.f0.f0, .slice rA r.f0.f1.length rc, .slice rB r.f1.length rd] 46)
  have hx := two_second w (.cells #[.slice A ds.length c, .slice B rs.length c'] 25) (.cells #[.string r.f0.f0, .slice rA r.f0.f1.length rc, .slice rB r.f1.length rd] 46)
  have W0 := Aside0.mk (below_alloc (below_alloc (Below.refl w.heap.size w) (.cells #[.slice A ds.length c, .slice B rs.length c'] 25)) (.cells #[.string r.f0.f0, .slice rA r.f0.f1.length rc, .slice rB r.f1.length rd] 46))
  have HBX := Aside0.mk hb
  have HXX := Aside0.mk hx
  clear hb hx
  go_enter Try.func7, Try.ntmps7
  go_wp2_with fail
  refine (lambrequinlaw08_shown.calls true _ rfl).mono ?_
  rintro e w1 ⟨rfl, hb1⟩
  have BX1 := blk_below HBX.out hb1
  have XX1 := blk_below HXX.out hb1
  have W1 := Aside0.mk (below_step W0.out hb1)
  have d0 := (blk_cell BX1 0).trans rfl
  have d1 := (blk_cell BX1 1).trans rfl
  have HBX1 := Aside0.mk BX1
  have HXX1 := Aside0.mk XX1
  clear hb1 BX1 XX1 W0 HBX HXX
  go_wp2_with fail
  refine (few_calls A c ds B c' rs _ (Kd.C_below HA.out W1.out) hc (Kd.C_below HB.out W1.out) hc' HF.out).mono ?_
  rintro e w2 ⟨rfl, hb2⟩
  have BX2 := blk_below HBX1.out hb2
  have XX2 := blk_below HXX1.out hb2
  have W2 := Aside0.mk (below_step W1.out hb2)
  clear d0 d1
  have d0 := (blk_cell BX2 0).trans rfl
  have d1 := (blk_cell BX2 1).trans rfl
  have x0 := (blk_cell XX2 0).trans rfl
  have x1 := (blk_cell XX2 1).trans rfl
  have x2 := (blk_cell XX2 2).trans rfl
  have HBX2 := Aside0.mk BX2
  have HXX2 := Aside0.mk XX2
  clear hb2 BX2 XX2 W1 HBX1 HXX1
  by_cases hf : ((usesD ds rs).length : Int) ≤ 300
  · rw [decide_eq_true hf]
    by_cases h5 : 50 < r.f1.length
    · have h5d : decide ((50 : Int) < (r.f1.length : Int)) = true := decide_eq_true (by omega)
      go_wp2_with fail
      go_ret
      exact ⟨rfl, W2.out⟩
    · have h5d : decide ((50 : Int) < (r.f1.length : Int)) = false := decide_eq_false (by omega)
      have HFEW := Aside0.mk hf
      have HFX := Aside0.mk (fits_more HF.out hf (by omega) : Fits ds (rs ++ [r]))
      have hmore := more_ok (usesD ds rs) (atomsD r)
      have hxlen : (usesD ds (rs ++ [r])).length ≤ 1000 := by rw [uses_more, List.length_append, atomsD_length]; have := litsD_le r.f1; omega
      have HXLEN := Aside0.mk hxlen
      clear hf hxlen
      obtain ⟨L, M, p1, p2, e1, e2, hr1, hr2, hcase, hMl⟩ := more_runs hmore
      have HR1 := Aside0.mk hr1
      rw [← uses_more] at hr2
      have HR2 := Aside0.mk hr2
      have HCASE := Aside0.mk hcase
      have hMx : M.length ≤ 1000 := by have := HXLEN.out; rw [uses_more] at this; omega
      clear hmore hr1 hr2 hcase hMl
      go_wp2_with fail
      refine (of_gives A c ds B c' rs _ (Kd.C_below HA.out W2.out) hc (Kd.C_below HB.out W2.out) hc' HF.out HR1.out).mono ?_
      rintro e w3 ⟨AL, cL, rfl, hcL, hCL, hb3⟩
      have HCL := Aside0.mk hCL
      have HBX3 := Aside0.mk (blk_below HBX2.out hb3)
      have HXX3 := Aside0.mk (blk_below HXX2.out hb3)
      have W3 := Aside0.mk (below_step W2.out hb3)
      have y0 := pw_cell_below hb3 d0
      have y1 := pw_cell_below hb3 d1
      have y2 := pw_cell_below hb3 x0
      have y3 := pw_cell_below hb3 x1
      have y4 := pw_cell_below hb3 x2
      clear hb3 hCL d0 d1 x0 x1 x2 W2 HBX2 HXX2
      have d0 := y0
      have d1 := y1
      have x0 := y2
      have x1 := y3
      have x2 := y4
      clear y0 y1 y2 y3 y4
      obtain ⟨w2, hw2⟩ : ∃ w2, w2 = w3 := ⟨_, rfl⟩
      subst hw2
      have W2 := W3
      clear W3
      have hw2 := W2.out.size
      have hrs : rs.length ≤ 1000 := by
        have := HFEW.out
        have := rules_le ds rs
        omega
      have FB := Aside0.mk (Kd.F_below (Kd.C_F heap46 HB.out) W2.out)
      have FC := Aside0.mk (Kd.F_below (Kd.C_F heap52 HRA.out) W2.out)
      have FD := Aside0.mk (Kd.F_below (Kd.C_F heap54 HRB.out) W2.out)
      go_wp2_with fail
      go_cut [9, 10, 11] (Second w2 M p2 e2)
      case first =>
        go_region_held3 (fun W => (W.cell? ⟨w.heap.size, 0, none⟩ = some (.slice A ds.length c) ∧ W.cell? ⟨w.heap.size, 1, none⟩ = some (.slice B rs.length c') ∧ W.cell? ⟨w.heap.size + 1, 0, none⟩ = some (.string r.f0.f0) ∧ W.cell? ⟨w.heap.size + 1, 1, none⟩ = some (.slice rA r.f0.f1.length rc) ∧ W.cell? ⟨w.heap.size + 1, 2, none⟩ = some (.slice rB r.f1.length rd)) ∧ Below w2.heap.size w2 W)
          ((go_split_ands; refine ⟨⟨?_, ?_, ?_, ?_, ?_⟩, ?_⟩; (focus (first | with_reducible assumption | (refine pw_cell_below (w := w2) ?_ d0; (repeat (first | with_reducible assumption | with_reducible exact Below.refl _ _ | with_reducible apply below_drew | with_reducible apply below_alloc))))); (focus (first | with_reducible assumption | (refine pw_cell_below (w := w2) ?_ d1; (repeat (first | with_reducible assumption | with_reducible exact Below.refl _ _ | with_reducible apply below_drew | with_reducible apply below_alloc))))); (focus (first | with_reducible assumption | (refine pw_cell_below (w := w2) ?_ x0; (repeat (first | with_reducible assumption | with_reducible exact Below.refl _ _ | with_reducible apply below_drew | with_reducible apply below_alloc))))); (focus (first | with_reducible assumption | (refine pw_cell_below (w := w2) ?_ x1; (repeat (first | with_reducible assumption | with_reducible exact Below.refl _ _ | with_reducible apply below_drew | with_reducible apply below_alloc))))); (focus (first | with_reducible assumption | (refine pw_cell_below (w := w2) ?_ x2; (repeat (first | with_reducible assumption | with_reducible exact Below.refl _ _ | with_reducible apply below_drew | with_reducible apply below_alloc))))); (focus (repeat (first | with_reducible assumption | with_reducible exact Below.refl _ _ | with_reducible apply below_drew | with_reducible apply below_alloc)))))
          (first
            | ((with_reducible show ite _ _ _); refine Kd.N_append_rows_step k46 (w0 := w2) w2.heap.size (by rfl) (.tmp 32) (.tmp 34) 23 46 (.agg #[(.string ⟨#[]⟩), (.slice none 0 0), (.slice none 0 0)]) 64 ?_ Try.underlying23 info46 (by rfl) (by decide) (by decide) _ [] rs B rs.length c' (fun _ => True) (fun q => q < w.heap.size) (by rfl) (by rfl) ?_ ?_ ?_ ?_ ?_ ?_ ?_ ?_; rfl; (focus (repeat (first | exact N_empty' (by simp) (by simp) | with_reducible apply Kd.N_drew | with_reducible apply Kd.N_alloc))); (focus (repeat (first | with_reducible exact FB.out | with_reducible apply Kd.F_drew | with_reducible apply Kd.F_alloc))); (intro q hq; have hq' : q < w.heap.size := hq; refine ⟨trivial, own_ne ?_⟩; omega); exact (fun _ _ => trivial); (focus (repeat (first | with_reducible assumption | with_reducible exact Below.refl _ _ | with_reducible apply below_drew | with_reducible apply below_alloc))); (simp <;> omega); (simp; omega); intro v4 w4 hN4 hb4 hg4 hat4; (refine (have K4 : w4.heap[w2.heap.size]? = some (.cells #[.string r.f0.f0, .slice rA r.f0.f1.length rc, .slice rB r.f1.length rd] 46 (0, 0)) := ?_; ?_); focus (refine blk_grown ?_ hg4 (own_ne' ?_); exact two_first w2 _ _; omega; done)); (refine (have hne4 : some (w2.heap.size) ≠ v4.ownBlock := ?_; ?_); focus ((rcases hat4 with h | ⟨b', h, hb'⟩ <;> rw [h]); (exact own_ne' (by omega)); (intro e; have e' := Option.some.inj e; simp at hb'; omega); done)); have hK4l := lt_blk K4; have HK4 := Aside0.mk K4; have HNE := Aside0.mk hne4; clear K4 hne4; obtain ⟨A4, cp4, hv4⟩ := Kd.N_slice hN4; obtain ⟨n4, hn4⟩ : ∃ n, n = ([] ++ rs).length := ⟨_, rfl⟩; rw [← hn4] at hv4; subst hv4; have HN4 := Aside0.mk hN4; have h4s := hb4.size; have d04 := pw_cell_below hb4 d0; have d14 := pw_cell_below hb4 d1; have x04 := pw_cell_below hb4 x0; have x14 := pw_cell_below hb4 x1; have x24 := pw_cell_below hb4 x2; have FC4 := Aside0.mk (Kd.F_below FC.out hb4); have FD4 := Aside0.mk (Kd.F_below FD.out hb4); clear hN4 hg4 hat4 hn4)
            | ((with_reducible show ite _ _ _); refine Kd.N_append_rows_step k46 (w0 := w2) w2.heap.size (by rfl) (.tmp 32) (.tmp 34) 23 46 (.agg #[(.string ⟨#[]⟩), (.slice none 0 0), (.slice none 0 0)]) 64 ?_ Try.underlying23 info46 (by rfl) (by decide) (by decide) _ [] rs B rs.length c' (fun _ => True) (fun q => q < w.heap.size) (by rfl) (by rfl) ?_ ?_ ?_ ?_ ?_ ?_ ?_ ?_; rfl; (focus (repeat (first | exact N_empty' (by simp) (by simp) | with_reducible apply Kd.N_drew | with_reducible apply Kd.N_alloc))); (focus (repeat (first | with_reducible exact FB.out | with_reducible apply Kd.F_drew | with_reducible apply Kd.F_alloc))); (intro q hq; have hq' : q < w.heap.size := hq; refine ⟨trivial, own_ne ?_⟩; omega); exact (fun _ _ => trivial); (focus (repeat (first | with_reducible assumption | with_reducible exact Below.refl _ _ | with_reducible apply below_drew | with_reducible apply below_alloc))); (simp <;> omega); (simp; omega); intro v4 w4 hN4 hb4 hg4 hat4; (refine (have K4 : w4.heap[w2.heap.size + 1]? = some (.cells #[.string r.f0.f0, .slice rA r.f0.f1.length rc, .slice rB r.f1.length rd] 46 (0, 0)) := ?_; ?_); focus (refine blk_grown ?_ hg4 (own_ne' ?_); exact two_second w2 _ _; omega; done)); (refine (have hne4 : some (w2.heap.size + 1) ≠ v4.ownBlock := ?_; ?_); focus ((rcases hat4 with h | ⟨b', h, hb'⟩ <;> rw [h]); (exact own_ne' (by omega)); (intro e; have e' := Option.some.inj e; simp at hb'; omega); done)); have hK4l := lt_blk K4; have HK4 := Aside0.mk K4; have HNE := Aside0.mk hne4; clear K4 hne4; obtain ⟨A4, cp4, hv4⟩ := Kd.N_slice hN4; obtain ⟨n4, hn4⟩ : ∃ n, n = ([] ++ rs).length := ⟨_, rfl⟩; rw [← hn4] at hv4; subst hv4; have HN4 := Aside0.mk hN4; have h4s := hb4.size; have d04 := pw_cell_below hb4 d0; have d14 := pw_cell_below hb4 d1; have x04 := pw_cell_below hb4 x0; have x14 := pw_cell_below hb4 x1; have x24 := pw_cell_below hb4 x2; have FC4 := Aside0.mk (Kd.F_below FC.out hb4); have FD4 := Aside0.mk (Kd.F_below FD.out hb4); clear hN4 hg4 hat4 hn4)
            | ((with_reducible show ite _ _ _); refine Kd.N_append_rows_step k46 (w0 := w2) w2.heap.size (by rfl) (.tmp 32) (.tmp 34) 23 46 (.agg #[(.string ⟨#[]⟩), (.slice none 0 0), (.slice none 0 0)]) 64 ?_ Try.underlying23 info46 (by rfl) (by decide) (by decide) _ [] rs B rs.length c' (fun _ => True) (fun q => q < w.heap.size) (by rfl) (by rfl) ?_ ?_ ?_ ?_ ?_ ?_ ?_ ?_; rfl; (focus (repeat (first | exact N_empty' (by simp) (by simp) | with_reducible apply Kd.N_drew | with_reducible apply Kd.N_alloc))); (focus (repeat (first | with_reducible exact FB.out | with_reducible apply Kd.F_drew | with_reducible apply Kd.F_alloc))); (intro q hq; have hq' : q < w.heap.size := hq; refine ⟨trivial, own_ne ?_⟩; omega); exact (fun _ _ => trivial); (focus (repeat (first | with_reducible assumption | with_reducible exact Below.refl _ _ | with_reducible apply below_drew | with_reducible apply below_alloc))); (simp <;> omega); (simp; omega); intro v4 w4 hN4 hb4 hg4 hat4; obtain ⟨A4, cp4, hv4⟩ := Kd.N_slice hN4; obtain ⟨n4, hn4⟩ : ∃ n, n = ([] ++ rs).length := ⟨_, rfl⟩; rw [← hn4] at hv4; subst hv4; have HN4 := Aside0.mk hN4; have h4s := hb4.size; have d04 := pw_cell_below hb4 d0; have d14 := pw_cell_below hb4 d1; have x04 := pw_cell_below hb4 x0; have x14 := pw_cell_below hb4 x1; have x24 := pw_cell_below hb4 x2; have FC4 := Aside0.mk (Kd.F_below FC.out hb4); have FD4 := Aside0.mk (Kd.F_below FD.out hb4); clear hN4 hg4 hat4 hn4)
            | ((with_reducible show ite _ _ _); refine Kd.N_append_rows_step k46 (w0 := w2) w2.heap.size (by rfl) (.tmp 35) (.tmp 37) 23 46 (.agg #[(.string ⟨#[]⟩), (.slice none 0 0), (.slice none 0 0)]) 64 ?_ Try.underlying23 info46 (by rfl) (by decide) (by decide) (.slice A4 n4 cp4) ([] ++ rs) [r] (some ⟨w2.heap.size, 0, none⟩) 1 1 (fun _ => True) (fun q => q < w.heap.size ∨ q = w2.heap.size) (by rfl) (by rfl) ?_ ?_ ?_ ?_ ?_ ?_ ?_ ?_; rfl; (focus (repeat (first | with_reducible exact HN4.out | with_reducible apply Kd.N_drew | with_reducible apply Kd.N_alloc))); (focus (refine F_one46 ?_ hrc hrd (Kd.F_below FC4.out ?_) (Kd.F_below FD4.out ?_); exact HK4.out; (repeat (first | with_reducible assumption | with_reducible exact Below.refl _ _ | with_reducible apply below_drew | with_reducible apply below_alloc)))); (intro q hq; refine ⟨trivial, ?_⟩; rcases hq with hq | hq; (intro e; have he := Kd.N_base HN4.out q e.symm; omega); (subst hq; exact HNE.out)); exact (fun _ _ => trivial); (focus (repeat (first | with_reducible assumption | with_reducible exact Below.refl _ _ | with_reducible apply below_drew | with_reducible apply below_alloc))); (first | with_reducible exact h4s | (simp <;> omega)); (simp; omega); intro v5 w5 hN5 hb5 hg5 hat5; obtain ⟨A5, cp5, hv5⟩ := Kd.N_slice hN5; rw [show (([] ++ rs) ++ [r]) = rs ++ [r] from by simp] at hN5 hv5; obtain ⟨n5, hn5⟩ : ∃ n, n = (rs ++ [r]).length := ⟨_, rfl⟩; rw [← hn5] at hv5; subst hv5; have HL5 := Aside0.mk hn5; clear hn5; have HN5 := Aside0.mk hN5; have h5s := hb5.size; have d05 := pw_cell_below hb5 d0; have d15 := pw_cell_below hb5 d1; have x05 := pw_cell_below hb5 x0; have x15 := pw_cell_below hb5 x1; have x25 := pw_cell_below hb5 x2; have HB5 := Aside0.mk hb5; clear hN5 hat5 hg5)
            | ((with_reducible show ite _ _ _); refine Kd.N_append_rows_step k46 (w0 := w2) w2.heap.size (by rfl) (.tmp 35) (.tmp 37) 23 46 (.agg #[(.string ⟨#[]⟩), (.slice none 0 0), (.slice none 0 0)]) 64 ?_ Try.underlying23 info46 (by rfl) (by decide) (by decide) (.slice A4 n4 cp4) ([] ++ rs) [r] (some ⟨w2.heap.size + 1, 0, none⟩) 1 1 (fun _ => True) (fun q => q < w.heap.size ∨ q = w2.heap.size + 1) (by rfl) (by rfl) ?_ ?_ ?_ ?_ ?_ ?_ ?_ ?_; rfl; (focus (repeat (first | with_reducible exact HN4.out | with_reducible apply Kd.N_drew | with_reducible apply Kd.N_alloc))); (focus (refine F_one46 ?_ hrc hrd (Kd.F_below FC4.out ?_) (Kd.F_below FD4.out ?_); exact HK4.out; (repeat (first | with_reducible assumption | with_reducible exact Below.refl _ _ | with_reducible apply below_drew | with_reducible apply below_alloc)))); (intro q hq; refine ⟨trivial, ?_⟩; rcases hq with hq | hq; (intro e; have he := Kd.N_base HN4.out q e.symm; omega); (subst hq; exact HNE.out)); exact (fun _ _ => trivial); (focus (repeat (first | with_reducible assumption | with_reducible exact Below.refl _ _ | with_reducible apply below_drew | with_reducible apply below_alloc))); (first | with_reducible exact h4s | (simp <;> omega)); (simp; omega); intro v5 w5 hN5 hb5 hg5 hat5; obtain ⟨A5, cp5, hv5⟩ := Kd.N_slice hN5; rw [show (([] ++ rs) ++ [r]) = rs ++ [r] from by simp] at hN5 hv5; obtain ⟨n5, hn5⟩ : ∃ n, n = (rs ++ [r]).length := ⟨_, rfl⟩; rw [← hn5] at hv5; subst hv5; have HL5 := Aside0.mk hn5; clear hn5; have HN5 := Aside0.mk hN5; have h5s := hb5.size; have d05 := pw_cell_below hb5 d0; have d15 := pw_cell_below hb5 d1; have x05 := pw_cell_below hb5 x0; have x15 := pw_cell_below hb5 x1; have x25 := pw_cell_below hb5 x2; have HB5 := Aside0.mk hb5; clear hN5 hat5 hg5)
            | ((with_reducible show ite _ _ _); refine Kd.N_append_rows_step k46 (w0 := w2) w2.heap.size (by rfl) (.tmp 35) (.tmp 37) 23 46 (.agg #[(.string ⟨#[]⟩), (.slice none 0 0), (.slice none 0 0)]) 64 ?_ Try.underlying23 info46 (by rfl) (by decide) (by decide) (.slice A4 n4 cp4) ([] ++ rs) [r] (some ⟨w4.heap.size, 0, none⟩) 1 1 (fun _ => True) (fun q => q < w.heap.size ∨ q = w4.heap.size) (by rfl) (by rfl) ?_ ?_ ?_ ?_ ?_ ?_ ?_ ?_; rfl; (focus (repeat (first | with_reducible exact HN4.out | with_reducible apply Kd.N_drew | with_reducible apply Kd.N_alloc))); (focus (refine F_one46 ?_ hrc hrd (Kd.F_below FC4.out ?_) (Kd.F_below FD4.out ?_); exact blk_new w4 _; (repeat (first | with_reducible assumption | with_reducible exact Below.refl _ _ | with_reducible apply below_drew | with_reducible apply below_alloc)))); (intro q hq; refine ⟨trivial, ?_⟩; rcases hq with hq | hq; (intro e; have he := Kd.N_base HN4.out q e.symm; omega); (intro e; have he := Kd.N_lt HN4.out q e.symm; omega)); exact (fun _ _ => trivial); (focus (repeat (first | with_reducible assumption | with_reducible exact Below.refl _ _ | with_reducible apply below_drew | with_reducible apply below_alloc))); (first | with_reducible exact h4s | (simp <;> omega)); (simp; omega); intro v5 w5 hN5 hb5 hg5 hat5; obtain ⟨A5, cp5, hv5⟩ := Kd.N_slice hN5; rw [show (([] ++ rs) ++ [r]) = rs ++ [r] from by simp] at hN5 hv5; obtain ⟨n5, hn5⟩ : ∃ n, n = (rs ++ [r]).length := ⟨_, rfl⟩; rw [← hn5] at hv5; subst hv5; have HL5 := Aside0.mk hn5; clear hn5; have HN5 := Aside0.mk hN5; have h5s := hb5.size; have d05 := pw_cell_below hb5 d0; have d15 := pw_cell_below hb5 d1; have x05 := pw_cell_below hb5 x0; have x15 := pw_cell_below hb5 x1; have x25 := pw_cell_below hb5 x2; have HB5 := Aside0.mk hb5; clear hN5 hat5 hg5)
            | (go_at_call 10; ((with_reducible refine (of_gives' A c ds A5 n5 cp5 (rs ++ [r]) _ (Kd.C_below HA.out ?_) hc (Kd.N_reads' HN5.out).2.2 (Kd.N_reads' HN5.out).2.1 HL5.out HFX.out HR2.out).mono ?_)); (refine below_step W2.out ?_; with_reducible assumption); rintro e w6 ⟨AM, cM, rfl, hcM, hCM, hb6⟩; have hb26 := below_step HB5.out hb6; have HCM := Aside0.mk hCM; have d06 := pw_cell_below hb26 d0; have d16 := pw_cell_below hb26 d1; have x06 := pw_cell_below hb26 x0; have x16 := pw_cell_below hb26 x1; have x26 := pw_cell_below hb26 x2; clear hCM))
        all_goals
          go_wp2_with fail
          go_meet
          exact ⟨_, _, rfl, rfl, rfl, by assumption, HCM.out, by assumption⟩
      case rest =>
        obtain ⟨AM, cM, rfl, rfl, rfl, hcM, hCM, hb9⟩ := hcut
        have e0 := pw_cell_below hb9 d0
        have e1' := pw_cell_below hb9 d1
        have HB9 := Aside0.mk hb9
        have HCM := Aside0.mk hCM
        have HW9 := Aside0.mk (below_step W2.out hb9)
        clear d0 d1 x0 x1 x2 hb9 hCM
        rcases HCASE.out with ⟨rfl, rfl, rfl, rfl⟩ | ⟨rfl, rfl, hl, hp⟩ | ⟨rfl, rfl, hl, t, ht⟩
        · clear e0 e1'
          go_wp2_with fail
          go_ret
          exact ⟨rfl, HW9.out⟩
        · have hpd : decide (((usesD ds rs).length : Int) ≤ p2) = true := decide_eq_true hp
          go_wp2_with fail
          refine (uses_calls A c ds B c' rs _ (Kd.C_below HA.out HW9.out) hc (Kd.C_below HB.out HW9.out) hc' HF.out).mono ?_
          rintro e w10 ⟨AU, cU, rfl, hb10⟩
          have HW10 := Aside0.mk (below_step HW9.out hb10)
          clear hb10 e0 e1'
          go_wp2_with fail
          go_ret
          exact ⟨rfl, HW10.out⟩
        · have hLM : L.length ≤ M.length := by rw [ht, List.length_append]; omega
          have hta : M.take L.length = L := by rw [ht]; simp
          have HTA := Aside0.mk hta
          have i0 : (0 : Int) ≤ (L.length : Int) := by omega
          have i1 : (L.length : Int) ≤ (M.length : Int) := by omega
          have i2 : (L.length : Int) ≤ (cM : Int) := by omega
          have hd : decide ((L.length : Int) ≤ (M.length : Int)) = true := decide_eq_true i1
          clear ht hta e0 e1'
          go_wp2_with fail
          refine (same_calls AM cM L.length (M.take L.length) AL cL L _ (Kd.C_take HCM.out hLM) (by omega) (by rw [HTA.out]) (Kd.C_below HCL.out HB9.out) hcL (by rw [HTA.out]; omega) HTA.out).mono ?_
          rintro e w10 ⟨rfl, hb10⟩
          have HW10 := Aside0.mk (below_step HW9.out hb10)
          clear hb10
          go_wp2_with fail
          go_ret
          exact ⟨rfl, HW10.out⟩
  · rw [decide_eq_false hf]
    go_wp2_with fail
    go_ret
    exact ⟨rfl, W2.out⟩
end Go.Proofs.Ytpcadcmfdbhmhaa.P
