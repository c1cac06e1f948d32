/- The document's Scan. -/
import Derived.Test.YtdfjhhhbkgelaaaGreatDoorR5o
import Derived.Test.YtdfjhhhbkgelaaaGreatDoorScan
import Derived.BigQuiet
import Derived.Deep.QuietTactic
namespace Go.Proofs.YtdfjhhhbkgelaaaGreatDoor.V
set_option linter.unusedVariables false
set_option linter.unusedSimpArgs false
open Go.RowKit

/-- What is left behind a token is what is left of the text. -/
theorem suffix_drop {l r : List UInt8} (h : r <:+ l) : l.drop (l.length - r.length) = r := by
  obtain ⟨t, rfl⟩ := h
  rw [List.length_append, show t.length + r.length - r.length = t.length by omega]
  exact List.drop_left
theorem quotL_suf : ∀ (n : Nat) (l : List UInt8), l.length ≤ n → ∀ b r, quotL l = some (b, r) → r <:+ l := by
  intro n
  induction n with
  | zero =>
    intro l hl b r h
    match l, hl with
    | [], _ => simp [quotL] at h
  | succ n ih =>
    intro l hl b r h
    match l with
    | [] => simp [quotL] at h
    | [c] =>
      unfold quotL at h
      split at h
      · simp at h; rw [h.2]; exact List.nil_suffix
      · simp at h
    | c :: d :: u =>
      unfold quotL at h
      split at h
      · simp at h; rw [← h.2]; exact List.suffix_cons _ _
      · split at h
        · simp at h
        · split at h
          · split at h
            · simp only [Option.map_eq_some_iff] at h
              obtain ⟨p, hp, he⟩ := h
              have := ih u (by simp at hl; omega) p.1 p.2 hp
              simp at he
              rw [← he.2]
              exact this.trans ((List.suffix_cons _ _).trans (List.suffix_cons _ _))
            · simp at h
          · simp only [Option.map_eq_some_iff] at h
            obtain ⟨p, hp, he⟩ := h
            have := ih (d :: u) (by simp at hl ⊢; omega) p.1 p.2 hp
            simp at he
            rw [← he.2]
            exact this.trans (List.suffix_cons _ _)
theorem oneL_suf (c : UInt8) (t : List UInt8) (k : Tok) (r : List UInt8) (h : oneL c t = .tok k r) : r <:+ c :: t := by
  have hn : ∀ kk, (namedL kk (c :: t) = .tok k r) → r <:+ c :: t := by
    intro kk h
    unfold namedL at h
    split at h
    · simp at h
    · simp only [Got.tok.injEq] at h
      rw [← h.2]
      exact List.dropWhile_suffix _
  unfold oneL at h
  split at h
  · exact hn 1 h
  · split at h
    · exact hn 2 h
    · split at h
      · unfold numL at h
        split at h
        · simp only [Got.tok.injEq] at h
          rw [← h.2]
          exact (List.dropWhile_suffix _).trans (List.suffix_cons _ _)
        · simp at h
      · split at h
        · unfold qres at h
          split at h
          · rename_i p hp
            simp only [Got.tok.injEq] at h
            rw [← h.2]
            exact (quotL_suf _ t (Nat.le_refl _) p.1 p.2 hp).trans (List.suffix_cons _ _)
          · simp at h
        · unfold markL at h
          split at h
          · simp only [Got.tok.injEq] at h
            rw [← h.2]
            exact List.drop_suffix _ _
          · split at h
            · simp only [Got.tok.injEq] at h
              rw [← h.2]
              exact List.drop_suffix _ _
            · simp at h
theorem rone_rest {s : ByteArray} {k b2 : Nat} {u : Tok} {r : List UInt8} {hkl : k < s.size} (ho : oneL (s[k]'hkl) (s.data.toList.drop (k + 1)) = .tok u r) (hb2 : s.size - r.length = b2) (_ : k < s.size) : s.data.toList.drop b2 = r := by
  have h1 := oneL_suf _ _ _ _ ho
  rw [← drop_at hkl] at h1
  have h2 := suffix_drop (h1.trans (List.drop_suffix _ _))
  have h3 : s.data.toList.length = s.size := by simp
  rw [h3, hb2] at h2
  exact h2

/-- What the document's Scan keeps, round by round. -/
structure RS (s : ByteArray) (k : Nat) (w W : World) (v : Value) (done : List TP') : Prop where
  hk : k ≤ s.size
  hs : skipR false (s.data.toList.drop k) = s.data.toList.drop k
  ho : W.ownsRow w.heap.size 35 5 v done.length (tokCells done)
  hz : done = [] → v = .slice none 0 0
  hn : done.length ≤ k
  hb : Below w.heap.size w W
  hq : scanT s.size s.data.toList = (scanT s.size (s.data.toList.drop k)).app done

set_option maxRecDepth 100000 in
set_option maxHeartbeats 8000000 in
theorem rscan_calls (s : ByteArray) (w : World) :
    Calls Tryz.prog 12 #[.string s] w (ScanIs s w) := by
  have hls : s.data.toList.length = s.size := by simp
  by_cases hbig : 65536 < s.size
  · have hd : decide (65536 < (s.size : Int)) = true := decide_eq_true (by omega)
    have HQ := Lib.hid (show scanL s.data.toList = .bad 0 4 from if_pos (by omega))
    clear hls hbig
    go_enter Tryz.func12, Tryz.ntmps12
    go_wp2_with fail
    refine bodyPost_ret (v := .tuple #[.slice none 0 0, .int .i64 0, .int .i64 4]) (by simp [results, Tryz.results12, go_sem]) rfl ⟨Below.refl _ _, ?_⟩
    rw [HQ.out]
    rfl
  · have hd : decide (65536 < (s.size : Int)) = false := decide_eq_false (by omega)
    have hs2 : s.size ≤ 65536 := by omega
    have HSL := Lib.hid (show scanL s.data.toList = scanT s.size s.data.toList by
      unfold scanL scanT
      rw [if_neg (by omega), hls])
    have HK0 := Lib.hid (fun (W : World) => (show Calls Tryz.prog 18 #[.string s, .int .i64 0] W (fun e w' => W = w' ∧ ∃ b : Nat, e = .returned (.int .i64 (b : Int)) ∧ 0 ≤ b ∧ b ≤ s.size ∧ s.data.toList.drop b = skipR false (s.data.toList.drop 0)) from rskip_calls s 0 W (Nat.zero_le _) hs2))
    clear hls hbig
    go_enter Tryz.func12, Tryz.ntmps12
    go_wp2_with (go_at_call 18; ((with_reducible refine (HK0.out _).mono ?_); rintro e w1 ⟨rfl, b, rfl, _, hb, hsk⟩; have HSK := Lib.hid hsk; have HB := Lib.hid hb; clear hsk hb))
    have hb := HB.out
    go_loopw [6, 5] (fun i v wr => ∃ k done, i = .int .i64 ((k : Nat) : Int) ∧ RS s k w wr v done) (fun i _ _ => s.size + 1 - (intOf i).toNat)
    case atStart =>
      refine ⟨b, [], rfl, ⟨HB.out, ?_, World.ownsRow_nil _ _ _ _, fun _ => rfl, Nat.zero_le _, Below.refl _ _, ?_⟩⟩
      · rw [HSK.out, skip_idem]
      · rw [HSK.out, List.drop_zero, scanT_skip, app_nil]
    case round =>
      obtain ⟨k, done, rfl, hW⟩ := hrel
      obtain ⟨A, c, rfl⟩ := o_slice hW.ho
      have HW := Lib.hid hW
      clear hW hb
      by_cases hkl : k < s.size
      · have hdk : decide ((k : Int) < (s.size : Int)) = true := decide_eq_true (by omega)
        have hstay := HW.out.hs
        rw [drop_at hkl] at hstay
        cases ho : oneL s[k] (s.data.toList.drop (k + 1)) with
        | bad m =>
          have hm : ((m : Int) != 0) = true := by
            have := oneL_bad ho
            simp
            omega
          have HF := Lib.hid (show scanL s.data.toList = .bad k m by
            rw [HSL.out, HW.out.hq, scanT_bad _ _ s[k] (s.data.toList.drop (k + 1)) m (by rw [drop_at hkl]; exact hstay) ho]
            simp [Scan.app]
            omega)
          have HC := Lib.hid (fun (W : World) => (show Calls Tryz.prog 19 #[.string s, .int .i64 (k : Int)] W (fun e w' => Below W.heap.size W w' ∧ e = .returned (.agg #[.int .i64 0, .string ⟨#[]⟩, .int .i64 0, .bool false, .int .i64 0, .int .i64 0, .int .i64 (m : Int)])) from by
            have h := rone_calls s k W hkl hs2
            rw [ho] at h
            exact h))
          clear hstay ho
          go_wp2_with (go_at_call 19; ((with_reducible refine (HC.out _).mono ?_); rintro e w2 ⟨hb2, rfl⟩; have HB2 := Lib.hid (HW.out.hb.trans (hb2.mono HW.out.hb.size)); clear hb2))
          go_quiet (fail)
          go_wp2_with fail
          refine bodyPost_ret (v := .tuple #[.slice none 0 0, .int .i64 (k : Int), .int .i64 (m : Int)]) (by simp [results, Tryz.results12, go_sem]) rfl ⟨(HB2.out.alloc HB2.out.size _).trans ⟨rfl, rfl, rfl, Nat.le_refl _, fun _ _ => rfl⟩, ?_⟩
          rw [HF.out]
        | tok u r =>
          have HF := Lib.hid (show scanT s.size s.data.toList = (scanT s.size r).app (done ++ [(u, k)]) by
            rw [HW.out.hq, scanT_tok _ _ s[k] (s.data.toList.drop (k + 1)) u r (by rw [drop_at hkl]; exact hstay) ho, app_cons]
            have e : s.size - (s[k] :: s.data.toList.drop (k + 1)).length = k := by simp; omega
            rw [e])
          have hlen : r.length < s.size - k := by
            have := oneL_lt _ _ _ _ ho
            simp at this
            omega
          obtain ⟨b2, hb2⟩ : ∃ b2, s.size - r.length = b2 := ⟨_, rfl⟩
          have HC := Lib.hid (fun (W : World) => (show Calls Tryz.prog 19 #[.string s, .int .i64 (k : Int)] W (fun e w' => Below W.heap.size W w' ∧ e = .returned (.agg #[.int .i64 (u.k : Int), .string ⟨u.s.toArray⟩, .int .i64 u.n, .bool u.q, .int .i64 0, .int .i64 (b2 : Int), .int .i64 0])) from by
            have h := rone_calls s k W hkl hs2
            rw [ho] at h
            rw [← hb2]
            exact h))
          have HBK := Lib.hid (show k < b2 by omega)
          have HB2 := Lib.hid (show b2 ≤ s.size by omega)
          have HR2 := Lib.hid (show s.data.toList.drop b2 = r from rone_rest ho hb2 hkl)
          clear hstay ho hlen hb2
          go_wp2_with (first
            | (go_at_call 19; ((with_reducible refine (HC.out _).mono ?_); rintro e w2 ⟨hb2, rfl⟩; have HO2 := Lib.hid (o_kb HW.out.ho hb2); have HLT := Lib.hid (show ∀ g, Value.ownBlock (.slice A done.length c) = some g → g < w2.heap.size from fun g hg => Nat.lt_of_lt_of_le (HW.out.ho.lt g hg).2 hb2.size); have HBW := Lib.hid (HW.out.hb.trans (hb2.mono HW.out.hb.size)); clear hb2))
            | (at_builtin; refine RowKit.Hid.out ?_))
          refine Lib.hid ?_
          have hb1 := (Below.refl w2.heap.size w2).alloc (Nat.le_refl _) (.cells #[.int .i64 (u.k : Int), .string ⟨u.s.toArray⟩, .int .i64 u.n, .bool u.q, .int .i64 0, .int .i64 (b2 : Int), .int .i64 0] 45)
          have hbA := hb1.alloc hb1.size (.cells #[.int .i64 (u.k : Int), .string ⟨u.s.toArray⟩, .int .i64 u.n, .bool u.q, .int .i64 (k : Int)] 35)
          have hgot : IsGot w2.heap.size (.int .i64 (u.k : Int)) (.string ⟨u.s.toArray⟩) (.int .i64 u.n) (.bool u.q) (.int .i64 0) (.int .i64 (b2 : Int)) (.int .i64 0) ((w2.alloc (.cells #[.int .i64 (u.k : Int), .string ⟨u.s.toArray⟩, .int .i64 u.n, .bool u.q, .int .i64 0, .int .i64 (b2 : Int), .int .i64 0] 45)).alloc (.cells #[.int .i64 (u.k : Int), .string ⟨u.s.toArray⟩, .int .i64 u.n, .bool u.q, .int .i64 (k : Int)] 35)) := (IsGot.new w2).grown (World.grownBy_alloc _ _ none) (by simp)
          refine o_app (W := (w2.alloc (.cells #[.int .i64 (u.k : Int), .string ⟨u.s.toArray⟩, .int .i64 u.n, .bool u.q, .int .i64 0, .int .i64 (b2 : Int), .int .i64 0] 45)).alloc (.cells #[.int .i64 (u.k : Int), .string ⟨u.s.toArray⟩, .int .i64 u.n, .bool u.q, .int .i64 (k : Int)] 35)) rfl (.tmp 31) (.tmp 33) 23 35 rfl (.agg #[.int .i64 0, .string ⟨#[]⟩, .int .i64 0, .bool false, .int .i64 0]) 5 48 Tryz.underlying23 tok_info rfl (by decide) (by decide) #[.int .i64 (u.k : Int), .string ⟨u.s.toArray⟩, .int .i64 u.n, .bool u.q, .int .i64 (k : Int)] rfl (by intro v hv; simp at hv; rcases hv with rfl | rfl | rfl | rfl | rfl <;> rfl) (.slice A done.length c) done.length (tokCells done) (by rfl) (o_kb HO2.out hbA) (by first | rfl | (show (Value.slice (some ⟨w2.heap.size + 1 + 1, 0, none⟩) 1 1) = _; simp)) (by have := HW.out.hn; omega) (Nat.le_trans HBW.out.size hbA.size) ?_
          intro A2 c2 W3 ho3 hg3
          have hown : ∀ j, Value.ownBlock (.slice A done.length c) = some j → w.heap.size ≤ j := fun j hj => o_from HW.out.ho j hj
          have HGT := Lib.hid (hgot.grown hg3 (fun e => Nat.lt_irrefl _ (HLT.out _ e.symm)))
          have HO3 := Lib.hid (show W3.ownsRow w.heap.size 35 5 (.slice A2 (done.length + 1) c2) (done.length + 1) (tokCells (done ++ [(u, k)])) by rw [tokCells_snoc]; exact ho3)
          have HB3 := Lib.hid ((HBW.out.trans (hbA.mono HBW.out.size)).grown hg3 (Nat.le_trans HBW.out.size hbA.size) hown)
          have g5 := HGT.out.c5
          clear ho3 hg3 hb1 hbA hgot hown
          go_wp2_with (go_at_call 18; ((with_reducible refine (rskip_calls s b2 _ HB2.out hs2).mono ?_); rintro e w4 ⟨rfl, b4, rfl, hb24, hb4, hsk⟩; have HSK := Lib.hid hsk; have HB4 := Lib.hid hb4; have HB24 := Lib.hid hb24; clear hsk hb4 hb24))
          go_roundw
          case rel =>
            refine ⟨b4, done ++ [(u, k)], rfl, ⟨HB4.out, by rw [HSK.out, skip_idem], ?_, fun e => by simp at e, ?_, HB3.out, ?_⟩⟩
            · rw [List.length_append, List.length_singleton]
              exact HO3.out
            · have h1 := HBK.out
              have h2 := HB24.out
              have h3 := HW.out.hn
              simp
              omega
            · rw [HF.out, HSK.out, scanT_skip, HR2.out]
          case measure =>
            have h1 := HBK.out
            have h2 := HB24.out
            have h3 := HB4.out
            simp [intOf]
            omega
      · have hdk : decide ((k : Int) < (s.size : Int)) = false := decide_eq_false (by omega)
        have HF := Lib.hid (show scanL s.data.toList = .ok done by
          rw [HSL.out, HW.out.hq, drop_end (by omega), scanT_nil _ _ rfl]
          simp [Scan.app])
        go_wp2_with fail
        refine bodyPost_ret (v := .tuple #[.slice A done.length c, .int .i64 0, .int .i64 0]) (by simp [results, Tryz.results12, go_sem]) rfl ⟨HW.out.hb, ?_⟩
        rw [HF.out]
        exact ⟨_, rfl, HW.out.ho, HW.out.hz, by have := HW.out.hn; have := HW.out.hk; omega⟩
end Go.Proofs.YtdfjhhhbkgelaaaGreatDoor.V
