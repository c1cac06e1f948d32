/- ArityOrder: for every program that fits and every number, the law returns true and all that was there lies as it lay. -/
import Derived.Test.YtpcadcmfdbhmhaaMix
import Derived.Test.YtpcadcmfdbhmhaaLists
import Derived.Deep.DeepCutAuto
namespace Go.Proofs.Ytpcadcmfdbhmhaa.P
open Go.RowKit Go.Proofs.YtpcadcmfdbhmhaaW.PrintWords Go.Proofs.YtpcadcmfdbhmhaaW.PrintLast Go.Proofs.YtpcadcmfdbhmhaaW.PrintMore

set_option maxRecDepth 100000 in
set_option maxHeartbeats 8000000 in
theorem order_walk (A : Option Addr) (c : Nat) (ds : List S39) (B : Option Addr) (c' : Nat) (rs : List S46) (n : Int) (w : World) (hA : Kd.C k39 w A ds.length ds) (hc : ds.length ≤ c) (hB : Kd.C k46 w B rs.length rs) (hc' : rs.length ≤ c') (hn0 : 0 ≤ n) (hn1 : n ≤ 255) (h : Fits ds rs) :
    Calls Try.prog 5 #[.agg #[.slice A ds.length c, .slice B rs.length c'], .int .u8 n] w fun e w' => e = .returned (.bool true) ∧ Below w.heap.size w w' := by
  have HA := Aside0.mk hA
  have HB := Aside0.mk hB
  have HF := Aside0.mk h
  have HN := Aside0.mk (And.intro hn0 hn1)
  clear hA hB h hn0 hn1
  have hb := blk_new w (.cells #[.slice A ds.length c, .slice B rs.length c'] 25)
  have W0 := Aside0.mk (below_alloc (Below.refl w.heap.size w) (.cells #[.slice A ds.length c, .slice B rs.length c'] 25))
  have HBX := Aside0.mk hb
  clear hb
  go_enter Try.func5, Try.ntmps5
  go_wp2_with fail
  refine (lambrequinlaw08_shown.calls true _ rfl).mono ?_
  rintro e w1 ⟨rfl, hb1⟩
  have BX1 := blk_below HBX.out hb1
  have W1 := Aside0.mk (below_step W0.out hb1)
  have d0 := (blk_cell BX1 0).trans rfl
  have d1 := (blk_cell BX1 1).trans rfl
  have HBX1 := Aside0.mk BX1
  clear hb1 BX1 W0 HBX
  go_wp2_with fail
  refine (few_calls A c ds B c' rs _ (Kd.C_below HA.out W1.out) hc (Kd.C_below HB.out W1.out) hc' HF.out).mono ?_
  rintro e w2 ⟨rfl, hb2⟩
  have BX2 := blk_below HBX1.out hb2
  have W2 := Aside0.mk (below_step W1.out hb2)
  clear d0 d1
  have d0 := (blk_cell BX2 0).trans rfl
  have d1 := (blk_cell BX2 1).trans rfl
  have HBX2 := Aside0.mk BX2
  clear hb2 BX2 W1 HBX1
  by_cases hf : ((usesD ds rs).length : Int) ≤ 300
  · rw [decide_eq_true hf]
    have HFEW := Aside0.mk hf
    clear hf
    by_cases h0 : rs.length = 0
    · go_wp2_with fail
      go_ret
      exact ⟨rfl, W2.out⟩
    · have h0d : decide ((rs.length : Int) = 0) = false := by simpa using h0
      go_wp2_with fail
      obtain ⟨k, hkd⟩ : ∃ k, k = n.toNat % rs.length := ⟨_, rfl⟩
      obtain ⟨hn0, hn1⟩ := HN.out
      have hk : (wrap64 n).tmod (rs.length : Int) = (k : Int) := by
        have e1 : wrap64 n = n := by unfold wrap64; omega
        obtain ⟨m, rfl⟩ := Int.eq_ofNat_of_zero_le hn0
        rw [e1, hkd, Int.toNat_natCast]
        rfl
      have hklt : k < rs.length := by rw [hkd]; exact Nat.mod_lt _ (by omega)
      rw [hk]
      clear hkd hk hn0 hn1 HN
      have hmax : rs.length ≤ 1000000000000 := HF.out.2.1
      have i0 : (0 : Int) ≤ (k : Int) := by omega
      have i1 : (k : Int) ≤ (rs.length : Int) := by omega
      have i2 : (k : Int) ≤ (c' : Int) := by omega
      have i3 : (rs.length : Int) ≤ (c' : Int) := by omega
      have hne : c' ≠ k := by omega
      have FB := Kd.F_below (Kd.C_F heap46 HB.out) W2.out
      have hw2 := W2.out.size
      have FD : Aside0 (Kd.F k46 w2 (fun q => q < w.heap.size) (B.map fun x => x.add (k * 3)) (rs.length - k) (rs.drop k)) := by
        refine Aside0.mk (Kd.F_imp FB (fun W' hC => ?_))
        have := Kd.C_drop (m := k) hC (by omega) hc'
        rw [if_neg hne, List.length_drop] at this
        exact this
      have FT : Aside0 (Kd.F k46 w2 (fun q => q < w.heap.size) B k (rs.take k)) := by
        refine Aside0.mk (Kd.F_imp FB (fun W' hC => ?_))
        have := Kd.C_take (m := k) hC (by omega)
        rw [List.length_take, Nat.min_eq_left (by omega)] at this
        exact this
      clear FB
      go_cut [7] (Mixed w2 A ds.length c (rs.drop k ++ rs.take k))
      case first =>
        go_region_held3 (fun W => (W.cell? ⟨w.heap.size, 0, none⟩ = some (.slice A ds.length c) ∧ W.cell? ⟨w.heap.size, 1, none⟩ = some (.slice B rs.length c')) ∧ Below w2.heap.size w2 W)
          (first | (go_split_ands; exact ⟨⟨by assumption, by assumption⟩, by assumption⟩) | (go_split_ands; refine ⟨⟨?_, ?_⟩, ?_⟩; (focus (first | with_reducible assumption | exact f0 | exact e0 | (refine pw_cell_below (w := w2) ?_ d0; (repeat (first | with_reducible assumption | with_reducible exact Below.refl _ _ | with_reducible apply below_drew | with_reducible apply below_alloc | (with_reducible refine Below.setCell ?_ ?_ _; rotate_left; focus ((first | omega | (simp <;> omega)); done))))))); (focus (first | with_reducible assumption | exact f1 | exact e1 | (refine pw_cell_below (w := w2) ?_ d1; (repeat (first | with_reducible assumption | with_reducible exact Below.refl _ _ | with_reducible apply below_drew | with_reducible apply below_alloc | (with_reducible refine Below.setCell ?_ ?_ _; rotate_left; focus ((first | omega | (simp <;> omega)); done))))))); (focus (repeat (first | with_reducible assumption | with_reducible exact Below.refl _ _ | with_reducible apply below_drew | with_reducible apply below_alloc | (with_reducible refine Below.setCell ?_ ?_ _; rotate_left; focus ((first | omega | (simp <;> omega)); done)))))))
          (first
            | (refine Kd.N_append_rows_step k46 (w0 := w2) w2.heap.size (by rfl) (.tmp 36) (.tmp 40) 23 46 (.agg #[(.string ⟨#[]⟩), (.slice none 0 0), (.slice none 0 0)]) 64 ?_ Try.underlying23 info46 (by rfl) (by decide) (by decide) _ [] (rs.drop k) (B.map fun x => x.add (k * 3)) (rs.length - k) (c' - k) (fun q => q ≠ w2.heap.size) (fun q => q < w.heap.size) (by rfl) (by rfl) ?_ ?_ ?_ ?_ ?_ ?_ ?_ ?_; rfl; (focus (repeat (first | exact N_emptyG (by simp) (by simp) (by simp) | with_reducible apply Kd.N_drew | with_reducible apply Kd.N_alloc))); (focus (repeat (first | with_reducible exact FD.out | with_reducible apply Kd.F_drew | with_reducible apply Kd.F_alloc))); (intro q hq; have hq' : q < w.heap.size := hq; refine ⟨?_, own_ne ?_⟩; (show q ≠ w2.heap.size; omega); omega); (intro q hq; (try simp at hq); (show q ≠ w2.heap.size); omega); (focus (repeat (first | with_reducible assumption | with_reducible exact Below.refl _ _ | with_reducible apply below_drew | with_reducible apply below_alloc | (with_reducible refine Below.setCell ?_ ?_ _; rotate_left; focus ((first | omega | (simp <;> omega)); done))))); (simp <;> omega); (simp; omega); intro v4 w4 hN4 hb4 hg4 hat4; obtain ⟨A4, cp4, hv4⟩ := Kd.N_slice hN4; obtain ⟨n4, hn4⟩ : ∃ n, n = ([] ++ rs.drop k).length := ⟨_, rfl⟩; rw [← hn4] at hv4; subst hv4; have FT4 := Aside0.mk (Kd.F_below FT.out hb4); have HN4 := Aside0.mk hN4; have e0 := pw_cell_below hb4 d0; have e1 := pw_cell_below hb4 d1; have h4s := hb4.size; (refine (have K4 : w4.heap[w2.heap.size]? = some (.cells #[.slice none 0 0, .slice none 0 0] 25 (0, 0)) := ?_; ?_); focus (refine blk_grown ?_ hg4 (own_ne' ?_); exact two_first w2 _ _; omega; done)); have h4K := lt_blk K4; clear hN4 hg4 hat4 hn4)
            | (refine Kd.N_append_rows_step k46 (w0 := w2) w2.heap.size (by rfl) (.tmp 36) (.tmp 40) 23 46 (.agg #[(.string ⟨#[]⟩), (.slice none 0 0), (.slice none 0 0)]) 64 ?_ Try.underlying23 info46 (by rfl) (by decide) (by decide) _ [] (rs.drop k) (B.map fun x => x.add (k * 3)) (rs.length - k) (c' - k) (fun q => q ≠ w2.heap.size + 1) (fun q => q < w.heap.size) (by rfl) (by rfl) ?_ ?_ ?_ ?_ ?_ ?_ ?_ ?_; rfl; (focus (repeat (first | exact N_emptyG (by simp) (by simp) (by simp) | with_reducible apply Kd.N_drew | with_reducible apply Kd.N_alloc))); (focus (repeat (first | with_reducible exact FD.out | with_reducible apply Kd.F_drew | with_reducible apply Kd.F_alloc))); (intro q hq; have hq' : q < w.heap.size := hq; refine ⟨?_, own_ne ?_⟩; (show q ≠ w2.heap.size + 1; omega); omega); (intro q hq; (try simp at hq); (show q ≠ w2.heap.size + 1); omega); (focus (repeat (first | with_reducible assumption | with_reducible exact Below.refl _ _ | with_reducible apply below_drew | with_reducible apply below_alloc | (with_reducible refine Below.setCell ?_ ?_ _; rotate_left; focus ((first | omega | (simp <;> omega)); done))))); (simp <;> omega); (simp; omega); intro v4 w4 hN4 hb4 hg4 hat4; obtain ⟨A4, cp4, hv4⟩ := Kd.N_slice hN4; obtain ⟨n4, hn4⟩ : ∃ n, n = ([] ++ rs.drop k).length := ⟨_, rfl⟩; rw [← hn4] at hv4; subst hv4; have FT4 := Aside0.mk (Kd.F_below FT.out hb4); have HN4 := Aside0.mk hN4; have e0 := pw_cell_below hb4 d0; have e1 := pw_cell_below hb4 d1; have h4s := hb4.size; (refine (have K4 : w4.heap[w2.heap.size + 1]? = some (.cells #[.slice none 0 0, .slice none 0 0] 25 (0, 0)) := ?_; ?_); focus (refine blk_grown ?_ hg4 (own_ne' ?_); exact two_second w2 _ _; omega; done)); have h4K := lt_blk K4; clear hN4 hg4 hat4 hn4)
            | (refine Kd.N_append_rows_step k46 (w0 := w2) w2.heap.size (by rfl) (.tmp 36) (.tmp 40) 23 46 (.agg #[(.string ⟨#[]⟩), (.slice none 0 0), (.slice none 0 0)]) 64 ?_ Try.underlying23 info46 (by rfl) (by decide) (by decide) _ [] (rs.drop k) (B.map fun x => x.add (k * 3)) (rs.length - k) (c' - k) (fun _ => True) (fun q => q < w.heap.size) (by rfl) (by rfl) ?_ ?_ ?_ ?_ ?_ ?_ ?_ ?_; rfl; (focus (repeat (first | exact N_empty' (by simp) (by simp) | with_reducible apply Kd.N_drew | with_reducible apply Kd.N_alloc))); (focus (repeat (first | with_reducible exact FD.out | with_reducible apply Kd.F_drew | with_reducible apply Kd.F_alloc))); (intro q hq; have hq' : q < w.heap.size := hq; refine ⟨?_, own_ne ?_⟩; exact trivial; omega); exact (fun _ _ => trivial); (focus (repeat (first | with_reducible assumption | with_reducible exact Below.refl _ _ | with_reducible apply below_drew | with_reducible apply below_alloc | (with_reducible refine Below.setCell ?_ ?_ _; rotate_left; focus ((first | omega | (simp <;> omega)); done))))); (simp <;> omega); (simp; omega); intro v4 w4 hN4 hb4 hg4 hat4; obtain ⟨A4, cp4, hv4⟩ := Kd.N_slice hN4; obtain ⟨n4, hn4⟩ : ∃ n, n = ([] ++ rs.drop k).length := ⟨_, rfl⟩; rw [← hn4] at hv4; subst hv4; have FT4 := Aside0.mk (Kd.F_below FT.out hb4); have HN4 := Aside0.mk hN4; have e0 := pw_cell_below hb4 d0; have e1 := pw_cell_below hb4 d1; have h4s := hb4.size; clear hN4 hg4 hat4 hn4)
            | (refine Kd.N_append_rows_step k46 (w0 := w2) w2.heap.size (by rfl) (.tmp 41) (.tmp 45) 23 46 (.agg #[(.string ⟨#[]⟩), (.slice none 0 0), (.slice none 0 0)]) 64 ?_ Try.underlying23 info46 (by rfl) (by decide) (by decide) (.slice A4 n4 cp4) ([] ++ rs.drop k) (rs.take k) B k c' (fun q => q ≠ w2.heap.size) (fun q => q < w.heap.size) (by rfl) (by rfl) ?_ ?_ ?_ ?_ ?_ ?_ ?_ ?_; rfl; (focus (repeat (first | with_reducible exact HN4.out | with_reducible apply Kd.N_drew | with_reducible apply Kd.N_alloc))); (focus (repeat (first | with_reducible exact FT4.out | with_reducible apply Kd.F_drew | with_reducible apply Kd.F_alloc))); (intro q hq; have hq' : q < w.heap.size := hq; refine ⟨?_, fun e => ?_⟩; (show q ≠ w2.heap.size; omega); (have he := Kd.N_base HN4.out q e.symm; omega)); (intro q hq; (try simp at hq); (show q ≠ w2.heap.size); omega); (focus (repeat (first | with_reducible assumption | with_reducible exact Below.refl _ _ | with_reducible apply below_drew | with_reducible apply below_alloc | (with_reducible refine Below.setCell ?_ ?_ _; rotate_left; focus ((first | omega | (simp <;> omega)); done))))); (first | with_reducible exact h4s | (simp <;> omega)); (simp; omega); intro v5 w5 hN5 hb5 hg5 hat5; obtain ⟨A5, cp5, hv5⟩ := Kd.N_slice hN5; obtain ⟨n5, hn5⟩ : ∃ n, n = (([] ++ rs.drop k) ++ rs.take k).length := ⟨_, rfl⟩; rw [← hn5] at hv5; subst hv5; have HN5 := Aside0.mk hN5; have f0 := pw_cell_below hb5 d0; have f1 := pw_cell_below hb5 d1; have h5s := hb5.size; (refine (have K5 : w5.heap[w2.heap.size]? = some (.cells #[.slice none 0 0, .slice none 0 0] 25 (0, 0)) := ?_; ?_); focus (refine blk_grown K4 hg5 (Kd.N_ne HN4.out K4 (by decide)); done)); clear K4; (have K50 : w5.cell? ⟨w2.heap.size, 0, none⟩ = some (.slice none 0 0) := (blk_cell K5 0).trans rfl; have K51 : w5.cell? ⟨w2.heap.size, 1, none⟩ = some (.slice none 0 0) := (blk_cell K5 1).trans rfl; have K5f := blk_frozen K5 0; have K5g := blk_frozen K5 1; have K5s := lt_blk K5; have HK5 := Aside0.mk K5; clear K5); clear hN5 hat5 hg5 hn5)
            | (refine Kd.N_append_rows_step k46 (w0 := w2) w2.heap.size (by rfl) (.tmp 41) (.tmp 45) 23 46 (.agg #[(.string ⟨#[]⟩), (.slice none 0 0), (.slice none 0 0)]) 64 ?_ Try.underlying23 info46 (by rfl) (by decide) (by decide) (.slice A4 n4 cp4) ([] ++ rs.drop k) (rs.take k) B k c' (fun q => q ≠ w2.heap.size + 1) (fun q => q < w.heap.size) (by rfl) (by rfl) ?_ ?_ ?_ ?_ ?_ ?_ ?_ ?_; rfl; (focus (repeat (first | with_reducible exact HN4.out | with_reducible apply Kd.N_drew | with_reducible apply Kd.N_alloc))); (focus (repeat (first | with_reducible exact FT4.out | with_reducible apply Kd.F_drew | with_reducible apply Kd.F_alloc))); (intro q hq; have hq' : q < w.heap.size := hq; refine ⟨?_, fun e => ?_⟩; (show q ≠ w2.heap.size + 1; omega); (have he := Kd.N_base HN4.out q e.symm; omega)); (intro q hq; (try simp at hq); (show q ≠ w2.heap.size + 1); omega); (focus (repeat (first | with_reducible assumption | with_reducible exact Below.refl _ _ | with_reducible apply below_drew | with_reducible apply below_alloc | (with_reducible refine Below.setCell ?_ ?_ _; rotate_left; focus ((first | omega | (simp <;> omega)); done))))); (first | with_reducible exact h4s | (simp <;> omega)); (simp; omega); intro v5 w5 hN5 hb5 hg5 hat5; obtain ⟨A5, cp5, hv5⟩ := Kd.N_slice hN5; obtain ⟨n5, hn5⟩ : ∃ n, n = (([] ++ rs.drop k) ++ rs.take k).length := ⟨_, rfl⟩; rw [← hn5] at hv5; subst hv5; have HN5 := Aside0.mk hN5; have f0 := pw_cell_below hb5 d0; have f1 := pw_cell_below hb5 d1; have h5s := hb5.size; (refine (have K5 : w5.heap[w2.heap.size + 1]? = some (.cells #[.slice none 0 0, .slice none 0 0] 25 (0, 0)) := ?_; ?_); focus (refine blk_grown K4 hg5 (Kd.N_ne HN4.out K4 (by decide)); done)); clear K4; (have K50 : w5.cell? ⟨w2.heap.size + 1, 0, none⟩ = some (.slice none 0 0) := (blk_cell K5 0).trans rfl; have K51 : w5.cell? ⟨w2.heap.size + 1, 1, none⟩ = some (.slice none 0 0) := (blk_cell K5 1).trans rfl; have K5f := blk_frozen K5 0; have K5g := blk_frozen K5 1; have K5s := lt_blk K5; have HK5 := Aside0.mk K5; clear K5); clear hN5 hat5 hg5 hn5)
            | (refine Kd.N_append_rows_step k46 (w0 := w2) w2.heap.size (by rfl) (.tmp 41) (.tmp 45) 23 46 (.agg #[(.string ⟨#[]⟩), (.slice none 0 0), (.slice none 0 0)]) 64 ?_ Try.underlying23 info46 (by rfl) (by decide) (by decide) (.slice A4 n4 cp4) ([] ++ rs.drop k) (rs.take k) B k c' (fun q => q ≠ w4.heap.size) (fun q => q < w.heap.size) (by rfl) (by rfl) ?_ ?_ ?_ ?_ ?_ ?_ ?_ ?_; rfl; (focus (refine Kd.N_mono (Kd.N_below (Kd.N_bound HN4.out) ?_) (fun q hq => Nat.ne_of_lt hq.2); (repeat (first | with_reducible assumption | with_reducible exact Below.refl _ _ | with_reducible apply below_drew | with_reducible apply below_alloc | (with_reducible refine Below.setCell ?_ ?_ _; rotate_left; focus ((first | omega | (simp <;> omega)); done)))))); (focus (repeat (first | with_reducible exact FT4.out | with_reducible apply Kd.F_drew | with_reducible apply Kd.F_alloc))); (intro q hq; have hq' : q < w.heap.size := hq; refine ⟨?_, fun e => ?_⟩; (show q ≠ w4.heap.size; omega); (have he := Kd.N_base HN4.out q e.symm; omega)); (intro q hq; (try simp at hq); (show q ≠ w4.heap.size); omega); (focus (repeat (first | with_reducible assumption | with_reducible exact Below.refl _ _ | with_reducible apply below_drew | with_reducible apply below_alloc | (with_reducible refine Below.setCell ?_ ?_ _; rotate_left; focus ((first | omega | (simp <;> omega)); done))))); (first | with_reducible exact h4s | (simp <;> omega)); (simp; omega); intro v5 w5 hN5 hb5 hg5 hat5; obtain ⟨A5, cp5, hv5⟩ := Kd.N_slice hN5; obtain ⟨n5, hn5⟩ : ∃ n, n = (([] ++ rs.drop k) ++ rs.take k).length := ⟨_, rfl⟩; rw [← hn5] at hv5; subst hv5; have HN5 := Aside0.mk hN5; have f0 := pw_cell_below hb5 d0; have f1 := pw_cell_below hb5 d1; have h5s := hb5.size; (refine (have K5 : w5.heap[w4.heap.size]? = some (.cells #[.slice none 0 0, .slice none 0 0] 25 (0, 0)) := ?_; ?_); focus (refine blk_grown ?_ hg5 (fun e => ?_); exact blk_new w4 _; (have := Kd.N_lt HN4.out _ e.symm; omega); done)); (have K50 : w5.cell? ⟨w4.heap.size, 0, none⟩ = some (.slice none 0 0) := (blk_cell K5 0).trans rfl; have K51 : w5.cell? ⟨w4.heap.size, 1, none⟩ = some (.slice none 0 0) := (blk_cell K5 1).trans rfl; have K5f := blk_frozen K5 0; have K5g := blk_frozen K5 1; have K5s := lt_blk K5; have HK5 := Aside0.mk K5; clear K5); clear hN5 hat5 hg5 hn5)
            | (refine Kd.N_append_rows_step k46 (w0 := w2) w2.heap.size (by rfl) (.tmp 41) (.tmp 45) 23 46 (.agg #[(.string ⟨#[]⟩), (.slice none 0 0), (.slice none 0 0)]) 64 ?_ Try.underlying23 info46 (by rfl) (by decide) (by decide) (.slice A4 n4 cp4) ([] ++ rs.drop k) (rs.take k) B k c' (fun _ => True) (fun q => q < w.heap.size) (by rfl) (by rfl) ?_ ?_ ?_ ?_ ?_ ?_ ?_ ?_; rfl; (focus (repeat (first | with_reducible exact HN4.out | with_reducible apply Kd.N_drew | with_reducible apply Kd.N_alloc))); (focus (repeat (first | with_reducible exact FT4.out | with_reducible apply Kd.F_drew | with_reducible apply Kd.F_alloc))); (intro q hq; have hq' : q < w.heap.size := hq; refine ⟨?_, fun e => ?_⟩; exact trivial; (have he := Kd.N_base HN4.out q e.symm; omega)); exact (fun _ _ => trivial); (focus (repeat (first | with_reducible assumption | with_reducible exact Below.refl _ _ | with_reducible apply below_drew | with_reducible apply below_alloc | (with_reducible refine Below.setCell ?_ ?_ _; rotate_left; focus ((first | omega | (simp <;> omega)); done))))); (first | with_reducible exact h4s | (simp <;> omega)); (simp; omega); intro v5 w5 hN5 hb5 hg5 hat5; obtain ⟨A5, cp5, hv5⟩ := Kd.N_slice hN5; obtain ⟨n5, hn5⟩ : ∃ n, n = (([] ++ rs.drop k) ++ rs.take k).length := ⟨_, rfl⟩; rw [← hn5] at hv5; subst hv5; have HN5 := Aside0.mk hN5; have f0 := pw_cell_below hb5 d0; have f1 := pw_cell_below hb5 d1; have h5s := hb5.size; clear hN5 hat5 hg5 hn5))
        all_goals
          go_wp2_with fail
          go_meet
          first
            | exact mixed_set hb5 (by simpa using HN5.out) HK5.out (by omega)
            | exact mixed_new hb5 (by simpa using HN5.out)
      case rest =>
        obtain ⟨g, A5, n5, c5, rfl, hG, hbc, hN, hgle⟩ := hcut
        obtain ⟨A6, c6, hv6, hc6, hC6⟩ := Kd.N_reads hN
        obtain ⟨rfl, hn5, rfl⟩ : A5 = A6 ∧ n5 = (rs.drop k ++ rs.take k).length ∧ c5 = c6 := by
          injection hv6 with x1 x2 x3
          exact ⟨x1, x2, x3⟩
        clear hv6 hN
        have hf5 : Fits ds (rs.drop k ++ rs.take k) := fits_turned HF.out k
        have ho5 := order_ok (us := usesD ds rs) (vs := usesD ds (rs.drop k ++ rs.take k)) (uses_turned ds rs k)
        obtain ⟨xs, hxs⟩ : ∃ xs, xs = rs.drop k ++ rs.take k := ⟨_, rfl⟩
        rw [← hxs] at hn5 hC6 hc6 hf5 ho5
        subst hn5
        clear hxs FD FT hne i1 i2 i3 i0 hklt
        have HG := Aside0.mk hG
        have HBC := Aside0.mk hbc
        have HC6 := Aside0.mk hC6
        have HF5 := Aside0.mk hf5
        have q0 := pw_cell_below hbc d0
        have q1 := pw_cell_below hbc d1
        have hbw := below_step W2.out hbc
        have HBW := Aside0.mk hbw
        clear d0 d1 hG hbc hC6 hf5
        obtain ⟨L, M, p, q, err, hr1, hr2, hLM, hLu, hLv⟩ := order_runs ho5
        have hLmax : L.length ≤ 9223372036854775807 := by have := HFEW.out; omega
        have hMmax : M.length ≤ 9223372036854775807 := by omega
        have HR1 := Aside0.mk hr1
        have HR2 := Aside0.mk hr2
        have HLM := Aside0.mk hLM
        have HLV := Aside0.mk hLv
        clear ho5 hr1 hr2 hLv hLu
        rw [← hLM] at hMmax
        go_wp2_with fail
        refine (of_gives A c ds B c' rs _ (Kd.C_below HA.out HBW.out) hc (Kd.C_below HB.out HBW.out) hc' HF.out HR1.out).mono ?_
        rintro e w6 ⟨AL, cL, rfl, hcL, hCL, hb6⟩
        have G6 := blk_below HG.out hb6
        have H6 := Aside0.mk hb6
        have g0 := (blk_cell G6 0).trans rfl
        have g1 := (blk_cell G6 1).trans rfl
        have HW6 := Aside0.mk (below_step HBW.out hb6)
        have HCL := Aside0.mk hCL
        clear hb6 G6 q0 q1 hCL hcL
        go_wp2_with fail
        refine (of_gives A c ds A5 c5 xs _ (Kd.C_below HA.out HW6.out) hc (Kd.C_below HC6.out H6.out) hc6 HF5.out HR2.out).mono ?_
        rintro e w7 ⟨AM, cM, rfl, hcM, hCM, hb7⟩
        have HW7 := Aside0.mk (below_step HW6.out hb7)
        have HCL7 := Aside0.mk (Kd.C_below HCL.out hb7)
        have HCM := Aside0.mk hCM
        rw [← hLM] at hcM ⊢
        clear hb7 g0 g1 hCM HCL hLM
        go_wp2_with fail
        go_loopw [14] (fun i wr => ∃ m : Nat, m ≤ L.length ∧ i = .int .i64 m ∧ Below w7.heap.size w7 wr) (fun i _ => L.length - (intOf i).toNat)
        case atStart => exact ⟨0, by omega, rfl, by repeat (first | exact Below.refl _ _ | apply below_drew)⟩
        case round =>
          obtain ⟨m, hm, rfl, hbm⟩ := hrel
          have HBM := Aside0.mk hbm
          clear hbm
          by_cases hlt : m < L.length
          · obtain ⟨ad, rfl, e0, e1⟩ := at39k HCL7.out hlt
            have hin := rd39_nat hlt
            have hfd := HLV.out _ (List.getElem_mem hlt)
            rw [← hin] at hfd
            obtain ⟨d, hd⟩ : ∃ d, d = rd_T39 L (m : Int) := ⟨_, rfl⟩
            rw [← hd] at e0 e1 hfd
            clear hin hd
            have HFD := Aside0.mk hfd
            have d0 := pw_cell_below HBM.out e0
            have E1 := Aside0.mk e1
            clear e0 e1 hfd
            go_wp2_with fail
            refine (find_gives' AM cM L.length M d.f0 d.f1 _ (Kd.C_below HCM.out HBM.out) hcM HLM.out HFD.out).mono ?_
            rintro e w8 ⟨rfl, hb8⟩
            have HB8 := Aside0.mk (below_step HBM.out hb8)
            have d1 := pw_cell_below HB8.out E1.out
            clear hb8 d0
            go_wp2_with fail
            go_roundw
            case rel => exact ⟨m + 1, by omega, by go_num, HB8.out⟩
            case measure => simp [intOf]; omega
          · obtain rfl : m = L.length := by omega
            go_wp2_with fail
            go_ret
            exact ⟨rfl, below_step HW7.out HBM.out⟩
  · rw [decide_eq_false hf]
    go_wp2_with fail
    go_ret
    exact ⟨rfl, W2.out⟩
end Go.Proofs.Ytpcadcmfdbhmhaa.P
