/- ArityDeclares: for every program that fits and every number, the law returns true and all that was there lies as it lay. -/
import Derived.Test.YtpcadcmfdbhmhaaFirst
namespace Go.Proofs.Ytpcadcmfdbhmhaa.P
open Go.RowKit Go.Proofs.YtpcadcmfdbhmhaaW.PrintWords Go.Proofs.YtpcadcmfdbhmhaaW.PrintLast Go.Proofs.YtpcadcmfdbhmhaaW.PrintMore

theorem info39_ : (Try.prog.info? 39).map (fun i => (i.zero, i.size, i.bytes)) = some (some (.agg #[(.string ⟨#[]⟩), (.int .i64 0)]), 2, 24) := by kernel_rfl
theorem heap39' : Kd.Heap k39 := Kd.heap_iso _ (Kd.heap_pair Kd.heap_string (Kd.heap_int _))
theorem fits_told {ds : List S39} {rs : List S46} {L : List S39} (h : Fits ds rs) (hf : ((usesD ds rs).length : Int) ≤ 300) (hL : L.length ≤ 1000) : Fits L rs := by
  refine ⟨?_, h.2.1, h.2.2⟩
  have : (usesD ds rs).length = ds.length + (rs.flatMap atomsD).length := by simp [usesD]
  rw [usesD, List.length_append]
  omega

theorem F_one39 {W : World} {b : Nat} {d : S39} (hb : W.heap[b]? = some (.cells #[.string d.f0, .int .i64 d.f1] 39 (0, 0))) : Kd.F k39 W (fun q => q = b) (some ⟨b, 0, none⟩) 1 [d] := by
  intro W' hW
  have hb' : W'.heap[b]? = _ := (hW b rfl (lt_blk hb)).trans hb
  exact C_block (d := k39) (xs := [d]) (inner := [.string d.f0, .int .i64 d.f1]) hb' (Reps.snoc (Reps.none _ _) (k39_mk W' d) rfl) (by simp)
theorem off_stored {W : World} {base g n cap k : Nat} {L : List S39} (h : Kd.N k39 39 W base (fun _ => True) (.slice (some ⟨g, 0, none⟩) n cap) L) (hk : k < L.length) (hn : n = L.length) :
    W.cell? ⟨g, k * 2 + 1, none⟩ = some (.int .i64 L[k].f1) ∧ W.frozen? ⟨g, k * 2 + 1, none⟩ = false ∧ Kd.N k39 39 (W.setCell ⟨g, k * 2 + 1, none⟩ (.int .i64 (wrap64 (L[k].f1 + 1)))) base (fun _ => True) (.slice (some ⟨g, 0, none⟩) n cap) (offD L k) := by
  obtain ⟨c, hcl, hF, hcc, hfr⟩ := Kd.N_elem h z39 (k : Int) (by omega) (by omega)
  have hx : L.getD (k : Int).toNat z39 = L[k] := rd39_nat hk
  rw [hx] at hF
  have hc := k39_open (Kd.FK_now hF)
  subst hc
  simp only [Int.toNat_natCast] at hcc hfr
  have hs := Kd.N_seg h (k : Int) (by omega) (by omega) (c := [.string L[k].f0, .int .i64 L[k].f1]) (seg := [.int .i64 (wrap64 (L[k].f1 + 1))]) (j := 1) (x' := ⟨L[k].f0, wrap64 (L[k].f1 + 1)⟩) (okp := fun _ => False) rfl (by simpa using hcc) (Nat.le_refl 2) (k39_mkF _ _ _) (fun _ hq => hq.elim)
  refine ⟨hcc 1 _ rfl, hfr 1, ?_⟩
  have he : offD L k = L.set k ⟨L[k].f0, wrap64 (L[k].f1 + 1)⟩ := by unfold offD; rw [List.getElem?_eq_getElem hk]
  rw [he]
  exact hs.1

set_option maxRecDepth 100000 in
set_option maxHeartbeats 8000000 in
theorem declares_walk (A : Option Addr) (c : Nat) (ds : List S39) (B : Option Addr) (c' : Nat) (rs : List S46) (n : Int) (w : World) (hA : Kd.C k39 w A ds.length ds) (hc : ds.length ≤ c) (hB : Kd.C k46 w B rs.length rs) (hc' : rs.length ≤ c') (hn0 : 0 ≤ n) (hn1 : n ≤ 255) (h : Fits ds rs) :
    Calls Try.prog 6 #[.agg #[.slice A ds.length c, .slice B rs.length c'], .int .u8 n] w fun e w' => e = .returned (.bool true) ∧ Below w.heap.size w w' := by
  have HA := Aside0.mk hA
  have HB := Aside0.mk hB
  have HF := Aside0.mk h
  have HN := Aside0.mk (And.intro hn0 hn1)
  clear hA hB h hn0 hn1
  have hb := blk_new w (.cells #[.slice A ds.length c, .slice B rs.length c'] 25)
  have W0 := Aside0.mk (below_alloc (Below.refl w.heap.size w) (.cells #[.slice A ds.length c, .slice B rs.length c'] 25))
  have HBX := Aside0.mk hb
  clear hb
  go_enter Try.func6, Try.ntmps6
  go_wp2_with fail
  refine (lambrequinlaw08_shown.calls true _ rfl).mono ?_
  rintro e w1 ⟨rfl, hb1⟩
  have BX1 := blk_below HBX.out hb1
  have W1 := Aside0.mk (below_step W0.out hb1)
  have d0 := (blk_cell BX1 0).trans rfl
  have d1 := (blk_cell BX1 1).trans rfl
  have HBX1 := Aside0.mk BX1
  clear hb1 BX1 W0 HBX
  go_wp2_with fail
  refine (few_calls A c ds B c' rs _ (Kd.C_below HA.out W1.out) hc (Kd.C_below HB.out W1.out) hc' HF.out).mono ?_
  rintro e w2 ⟨rfl, hb2⟩
  have BX2 := blk_below HBX1.out hb2
  have W2 := Aside0.mk (below_step W1.out hb2)
  clear d0 d1
  have d0 := (blk_cell BX2 0).trans rfl
  have d1 := (blk_cell BX2 1).trans rfl
  have HBX2 := Aside0.mk BX2
  clear hb2 BX2 W1 HBX1
  by_cases hf : ((usesD ds rs).length : Int) ≤ 300
  · rw [decide_eq_true hf]
    have HFEW := Aside0.mk hf
    clear hf
    cases hk : keptD (usesD ds rs) with
    | none =>
      obtain ⟨j1, hr1, _⟩ := runD_clash _ [] 0 hk
      have HR1 := Aside0.mk hr1
      clear hk hr1
      go_wp2_with fail
      refine (of_gives A c ds B c' rs _ (Kd.C_below HA.out W2.out) hc (Kd.C_below HB.out W2.out) hc' HF.out HR1.out).mono ?_
      rintro e w3 ⟨AL, cL, rfl, hcL, hCL, hb3⟩
      have HW3 := Aside0.mk (below_step W2.out hb3)
      clear hb3 hcL hCL d0 d1
      go_wp2_with fail
      go_ret
      exact ⟨rfl, HW3.out⟩
    | some L =>
      have hLl : L.length ≤ (usesD ds rs).length := by simpa using kept_length _ [] L hk
      have hLm : L.length ≤ 300 := by have := HFEW.out; omega
      have HR1 := Aside0.mk (runD_kept _ [] 0 L hk)
      have HK := Aside0.mk hk
      clear hk hLl
      by_cases hl0 : L.length = 0
      · obtain rfl : L = [] := List.length_eq_zero_iff.1 hl0
        go_wp2_with fail
        refine (of_gives A c ds B c' rs _ (Kd.C_below HA.out W2.out) hc (Kd.C_below HB.out W2.out) hc' HF.out HR1.out).mono ?_
        rintro e w3 ⟨AL, cL, rfl, hcL, hCL, hb3⟩
        have HW3 := Aside0.mk (below_step W2.out hb3)
        clear hb3 hcL hCL d0 d1
        go_wp2_with fail
        go_ret
        exact ⟨rfl, HW3.out⟩
      · have hl0d : decide ((L.length : Int) = 0) = false := by simpa using hl0
        have HFL := Aside0.mk (fits_told (L := L) HF.out HFEW.out (by omega))
        have HR2 := Aside0.mk (runD_kept _ [] 0 L (told_again (ds := ds) (us := rs.flatMap atomsD) HK.out))
        go_wp2_with fail
        refine (of_gives A c ds B c' rs _ (Kd.C_below HA.out W2.out) hc (Kd.C_below HB.out W2.out) hc' HF.out HR1.out).mono ?_
        rintro e w3 ⟨AL, cL, rfl, hcL, hCL, hb3⟩
        have HW3 := Aside0.mk (below_step W2.out hb3)
        have HCL := Aside0.mk hCL
        have q0 := pw_cell_below hb3 d0
        have q1 := pw_cell_below hb3 d1
        clear hb3 hCL d0 d1
        go_wp2_with fail
        have hbA := below_alloc (Below.refl w3.heap.size w3) (.cells #[.slice AL L.length cL, .slice B rs.length c'] 25)
        have HBA := Aside0.mk hbA
        refine (of_gives AL cL L B c' rs _ (Kd.C_below HCL.out HBA.out) hcL (Kd.C_below HB.out (below_step HW3.out HBA.out)) hc' HFL.out HR2.out).mono ?_
        rintro e w7 ⟨AM, cM, rfl, hcM, hCM, hb7⟩
        have HB37 := Aside0.mk (below_step HBA.out hb7)
        have HW7 := Aside0.mk (below_step HW3.out HB37.out)
        have HCM := Aside0.mk hCM
        have HCL7 := Aside0.mk (Kd.C_below HCL.out HB37.out)
        have q0' := pw_cell_below HB37.out q0
        have q1' := pw_cell_below HB37.out q1
        clear hb7 hCM q0 q1 hbA
        obtain ⟨k, hkd⟩ : ∃ k, k = n.toNat % L.length := ⟨_, rfl⟩
        obtain ⟨hn0, hn1⟩ := HN.out
        have hkm : (wrap64 n).tmod (L.length : Int) = (k : Int) := by
          have e1 : wrap64 n = n := by unfold wrap64; omega
          obtain ⟨m, rfl⟩ := Int.eq_ofNat_of_zero_le hn0
          rw [e1, hkd, Int.toNat_natCast]
          rfl
        have hklt : k < L.length := by rw [hkd]; exact Nat.mod_lt _ (by omega)
        have HKM := Aside0.mk hkm
        clear hkd hkm hn0 hn1
        have FL := Aside0.mk (Kd.C_F heap39' HCL7.out)
        go_wp2_with ((with_reducible refine gate_builtin (b := .append) (xs := #[.tmp 52, .tmp 53]) rfl ?_); at_builtin; refine Kd.N_append_rows k39 (w0 := w7) w7.heap.size rfl (.tmp 52) (.tmp 53) 22 39 (.agg #[(.string ⟨#[]⟩), (.int .i64 0)]) 24 rfl Try.underlying22 info39 rfl (by decide) (by decide) (.slice (some ⟨w7.heap.size, 0, none⟩) 0 0) [] L AL L.length cL (fun _ => True) (fun q => q < w7.heap.size) rfl rfl ?_ ?_ ?_ ?_ ?_ ?_ ?_ ?_; (exact N39_empty rfl (Nat.le_refl _)); (exact Kd.F_alloc FL.out _); (intro q hq; exact ⟨trivial, own_ne hq⟩); (exact fun _ _ => trivial); (exact below_alloc (Below.refl _ _) _); (simp); (simp; omega); intro v8 w8 hN8 hb8 hg8 hat8; refine Aside0.out ?_)
        rw [List.nil_append] at hN8
        obtain ⟨g, cp, hv8, hgb, hgl, -⟩ := Kd.N_form hN8 (by omega)
        obtain ⟨n8, hn8⟩ : ∃ n8, n8 = L.length := ⟨_, rfl⟩
        rw [← hn8] at hv8
        subst hv8
        rw [HKM.out]
        obtain ⟨f1, f2, hN9⟩ := off_stored hN8 hklt hn8
        have HN9 := Aside0.mk hN9
        have HB8 := Aside0.mk hb8
        have HN8L := Aside0.mk hn8
        have i1 : (k : Int) < (n8 : Int) := by omega
        clear hN8 hb8 hg8 hat8 hN9 hn8
        refine Aside0.mk ?_
        go_wp2_with fail
        obtain ⟨ad, had, e0, e1⟩ := at39k HCL7.out hklt
        subst had
        have hlk := rd39_nat hklt
        have hw0 := wrap_off L[k].f1
        have hr3 := told_off (us := rs.flatMap atomsD) (kept_Once HK.out) k hklt hw0
        rw [hlk] at e0 e1
        have hoffl : (offD L k).length = L.length := by unfold offD; rw [List.getElem?_eq_getElem hklt]; simp
        obtain ⟨d, hd⟩ : ∃ d, d = L[k] := ⟨_, rfl⟩
        rw [← hd] at e0 e1 hr3
        clear hd hlk hw0
        have y0 := e0
        have y1 := e1
        have HR3 := Aside0.mk (show runD [] 0 (usesD (offD L k ++ [d]) rs) = ([], (L.length : Int), 5) from hr3)
        have HFO := Aside0.mk (fits_told (L := offD L k ++ [d]) HF.out HFEW.out (by rw [List.length_append, hoffl, List.length_singleton]; omega))
        clear e0 e1 hr3
        obtain ⟨w9, hw9⟩ : ∃ w9, w8.setCell ⟨g, k * 2 + 1, none⟩ (.int .i64 (wrap64 (L[k].f1 + 1))) = w9 := ⟨_, rfl⟩
        have hbb := (show Below w7.heap.size w7 w9 from by rw [← hw9]; exact HB8.out.setCell hgb _)
        have h79 := hbb.size
        rw [hw9] at HN9 ⊢
        clear hw9 f1 f2
        have i0 : (0 : Int) ≤ (k : Int) := by omega
        have i2 : (k : Int) < (L.length : Int) := by omega
        go_cut [15, 16, 17] (Second w7 [] L.length 5)
        case first =>
          go_region_held3 (fun W => (W.cell? (ad.add (k * 2)) = some (.string d.f0) ∧ W.cell? ⟨(ad.add (k * 2)).block, (ad.add (k * 2)).off + 1, none⟩ = some (.int .i64 d.f1) ∧ W.cell? ⟨w.heap.size, 1, none⟩ = some (.slice B rs.length c')) ∧ Below w7.heap.size w7 W)
            ((go_split_ands; refine ⟨⟨?_, ?_, ?_⟩, ?_⟩; (focus (first | with_reducible assumption | (refine pw_cell_below (w := w7) ?_ y0; (repeat (first | with_reducible assumption | with_reducible exact Below.refl _ _ | with_reducible apply below_drew | with_reducible apply below_alloc))))); (focus (first | with_reducible assumption | (refine pw_cell_below (w := w7) ?_ y1; (repeat (first | with_reducible assumption | with_reducible exact Below.refl _ _ | with_reducible apply below_drew | with_reducible apply below_alloc))))); (focus (first | with_reducible assumption | (refine pw_cell_below (w := w7) ?_ q1'; (repeat (first | with_reducible assumption | with_reducible exact Below.refl _ _ | with_reducible apply below_drew | with_reducible apply below_alloc))))); (focus (repeat (first | with_reducible assumption | with_reducible exact Below.refl _ _ | with_reducible apply below_drew | with_reducible apply below_alloc)))))
            (first
              | ((with_reducible show ite _ _ _); refine Kd.N_append_rows_step k39 (w0 := w7) w7.heap.size (by rfl) (.tmp 66) (.tmp 71) 22 39 (.agg #[(.string ⟨#[]⟩), (.int .i64 0)]) 24 ?_ Try.underlying22 info39 (by rfl) (by decide) (by decide) (.slice (some ⟨g, 0, none⟩) n8 cp) (offD L k) [d] (some ⟨w9.heap.size, 0, none⟩) 1 1 (fun _ => True) (fun q => q = w9.heap.size) (by rfl) (by rfl) ?_ ?_ ?_ ?_ ?_ ?_ ?_ ?_; rfl; (focus (repeat (first | with_reducible exact HN9.out | with_reducible apply Kd.N_drew | with_reducible apply Kd.N_alloc))); (focus (refine F_one39 ?_; exact blk_new w9 _)); (intro q hq; refine ⟨trivial, fun e => ?_⟩; have he := Kd.N_lt HN9.out q e.symm; have hq' : q = w9.heap.size := hq; omega); exact (fun _ _ => trivial); (focus (repeat (first | with_reducible assumption | with_reducible exact Below.refl _ _ | with_reducible apply below_drew | with_reducible apply below_alloc))); (first | with_reducible exact h79 | (simp <;> omega)); (rw [hoffl]; omega); intro v5 w5 hN5 hb5 hg5 hat5; obtain ⟨A5, cp5, hv5⟩ := Kd.N_slice hN5; obtain ⟨n5, hn5⟩ : ∃ n, n = (offD L k ++ [d]).length := ⟨_, rfl⟩; rw [← hn5] at hv5; subst hv5; have HL5 := Aside0.mk hn5; have HN5 := Aside0.mk hN5; have h5s := hb5.size; have y05 := pw_cell_below hb5 y0; have y15 := pw_cell_below hb5 y1; have q15 := pw_cell_below hb5 q1'; have HB5 := Aside0.mk hb5; clear hN5 hat5 hg5 hn5)
              | (go_at_call 10; ((with_reducible refine (of_gives2 A5 n5 cp5 (offD L k ++ [d]) B c' rs _ (Kd.N_reads' HN5.out).2.2 (Kd.N_reads' HN5.out).2.1 HL5.out (Kd.C_below HB.out ?_) hc' HFO.out HR3.out).mono ?_)); (refine below_step HW7.out ?_; with_reducible assumption); rintro e w6 ⟨AO, cO, rfl, hcO, hCO, hb6⟩; have hb26 := below_step HB5.out hb6; have HCO := Aside0.mk hCO; have y06 := pw_cell_below hb26 y0; have y16 := pw_cell_below hb26 y1; have q16 := pw_cell_below hb26 q1'; clear hCO))
          all_goals
            go_wp2_with fail
            go_meet
            exact ⟨_, _, rfl, rfl, rfl, by assumption, HCO.out, by assumption⟩
        case rest =>
          obtain ⟨AO, cO, rfl, rfl, rfl, hcO, hCO, hb9⟩ := hcut
          have HB9 := Aside0.mk hb9
          have HW9 := Aside0.mk (below_step HW7.out hb9)
          clear hb9 hCO q0' q1' y0 y1
          go_wp2_with fail
          refine (same_calls (some ad) cL L.length L AM cM L _ (Kd.C_below HCL7.out HB9.out) hcL rfl (Kd.C_below HCM.out HB9.out) hcM (by omega) rfl).mono ?_
          rintro e w10 ⟨rfl, hb10⟩
          have HW10 := Aside0.mk (below_step HW9.out hb10)
          clear hb10
          go_wp2_with fail
          go_ret
          exact ⟨rfl, HW10.out⟩
  · rw [decide_eq_false hf]
    go_wp2_with fail
    go_ret
    exact ⟨rfl, W2.out⟩
end Go.Proofs.Ytpcadcmfdbhmhaa.P
