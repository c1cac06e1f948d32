/- lambrequinlaw06.ParseForms. -/
import Derived.Test.YthhfjimhfehimaaDoorFormP
import Derived.Test.YthhfjimhfehimaaDoorShow6
import Derived.Test.YthhfjimhfehimaaDoorCuts
import Derived.BigQuiet
import Derived.Deep.QuietTactic
namespace Go.Proofs.YthhfjimhfehimaaDoor.V
set_option linter.unusedVariables false
set_option linter.unusedSimpArgs false
open Go.RowKit

/-- A text with a first byte. -/
theorem first_facts {P : Int → Bool} {l : List UInt8} (h : ∃ c u, l = c :: u ∧ ofB P c = true) : ∃ hp : 0 < (bs l).size, P (((bs l)[0]'hp).toNat : Int) = true ∧ (bs l).toList.isEmpty = false := by
  obtain ⟨c, u, rfl, hc⟩ := h
  refine ⟨by simp [bs, ByteArray.size], hc, ?_⟩
  rw [bs_list]
  rfl
theorem flat_at {α : Type} (f : α → List Value) (z : Nat) (hz : ∀ x, (f x).length = z) : ∀ (l : List α) (m j : Nat) (p : α), l[m]? = some p → j < z → (l.flatMap f)[m * z + j]? = (f p)[j]? := by
  intro l
  induction l with
  | nil => intro m j p h; simp at h
  | cons x l ih =>
    intro m j p h hj
    rw [List.flatMap_cons]
    match m with
    | 0 =>
      simp at h
      subst h
      rw [Nat.zero_mul, Nat.zero_add, List.getElem?_append_left (by rw [hz]; exact hj)]
    | m + 1 =>
      rw [List.getElem?_append_right (by rw [hz, Nat.succ_mul]; omega), ← ih m j p (by simpa using h) hj]
      congr 1
      rw [hz, Nat.succ_mul]
      omega
/-- A row's cells of one of its things. -/
theorem flat_row {α : Type} (f : α → List Value) {z : Nat} (hz : ∀ x, (f x).length = z) {W : World} {B e n : Nat} {A : Option Addr} {c : Nat} {l : List α} (h : W.ownsRow B e z (.slice A n c) n (l.flatMap f)) (hn : n = l.length) {m : Nat} {p : α} (hm : l[m]? = some p) :
    ∃ g, A = some ⟨g, 0, none⟩ ∧ ∀ j u, j < z → (f p)[j]? = some u → W.cell? ⟨g, m * z + j, none⟩ = some u := by
  have hlt := (List.getElem?_eq_some_iff.1 hm).1
  obtain ⟨g, hA, hc⟩ := o_at h (by omega)
  exact ⟨g, hA, fun j u hj hu => hc _ u (by rw [flat_at f z hz l m j p hm hj]; exact hu)⟩

theorem o_kb {W W' : World} {B e z n : Nat} {v : Value} {xs : List Value} (h : W.ownsRow B e z v n xs) (hb : Below W.heap.size W W') : W'.ownsRow B e z v n xs := o_keptR h (grown_below hb none) (fun k e => by cases e)
set_option maxRecDepth 100000 in
set_option maxHeartbeats 4000000 in
theorem one6_calls (x : TermL) (w : World) (h : OneOk x) :
    Calls Tryd.prog 9 #[.agg #[.bool x.v, .string (bs x.x), .bool x.s, .string (bs x.t), .int .i64 x.n]] w fun e w' => e = .returned (.bool true) ∧ Below w.heap.size w w' := by
  obtain ⟨xv, xx, xs, xt, xn⟩ := x
  rcases h with ⟨hv, hf, hs, ht, hn⟩ | ⟨hv, hx, h⟩
  · simp only at hv hf hs ht hn
    subst hv hs ht hn
    obtain ⟨hp, hP, he⟩ := first_facts hf
    unfold bgI at hP
    simp only [Bool.and_eq_true] at hP
    obtain ⟨d1, d2⟩ := hP
    clear hf
    show Calls Tryd.prog 9 #[.agg #[.bool true, .string (bs xx), .bool false, .string ⟨#[]⟩, .int .i64 0]] w _
    go_enter Tryd.func9, Tryd.ntmps9
    go_wp2_with fail
    go_ret
    exact ⟨rfl, (Below.refl _ _).alloc (Nat.le_refl _) _⟩
  · simp only at hv hx h
    subst hv hx
    rcases h with ⟨rfl, rfl⟩ | ⟨rfl, rfl⟩
    · show Calls Tryd.prog 9 #[.agg #[.bool false, .string ⟨#[]⟩, .bool true, .string (bs xt), .int .i64 0]] w _
      go_enter Tryd.func9, Tryd.ntmps9
      go_wp2_with fail
      go_ret
      exact ⟨rfl, (Below.refl _ _).alloc (Nat.le_refl _) _⟩
    · show Calls Tryd.prog 9 #[.agg #[.bool false, .string ⟨#[]⟩, .bool false, .string ⟨#[]⟩, .int .i64 xn]] w _
      go_enter Tryd.func9, Tryd.ntmps9
      go_wp2_with fail
      go_ret
      exact ⟨rfl, (Below.refl _ _).alloc (Nat.le_refl _) _⟩

theorem plain_first {l : List UInt8} (h : plainL l = true) : (∃ c u, l = c :: u ∧ ofB sml c = true) ∧ (l == [110, 111, 116]) = false := by
  unfold plainL at h
  split at h
  · cases h
  · rename_i c t
    simp only [Bool.and_eq_true, Bool.not_eq_true'] at h
    exact ⟨⟨c, t, rfl, h.1.2⟩, h.1.1⟩
set_option maxRecDepth 100000 in
set_option maxHeartbeats 4000000 in
theorem fine6_calls (a : AtomL) (v : Value) (base : Nat) (w : World) (h : FineOk a) (ht : TermsAt base w a.a v) :
    Calls Tryd.prog 8 #[.agg #[.string (bs a.p), v]] w fun e w' => e = .returned (.bool true) ∧ Below w.heap.size w w' := by
  obtain ⟨A, c, rfl⟩ := o_slice ht
  obtain ⟨p, l⟩ := a
  obtain ⟨hpl, h32, h6, hall⟩ := h
  simp only at hpl h32 h6 hall ht ⊢
  obtain ⟨hfst, hnot⟩ := plain_first hpl
  obtain ⟨hp, hP, he⟩ := first_facts hfst
  unfold sml at hP
  simp only [Bool.and_eq_true] at hP
  obtain ⟨d1, d2⟩ := hP
  have hne : ((bs p).toList == [110, 111, 116]) = false := by rw [bs_list]; exact hnot
  have hsz : decide (((bs p).size : Int) ≤ 32) = true := decide_eq_true (by simp [bs, ByteArray.size]; omega)
  have hl6 : decide ((l.length : Int) ≤ 6) = true := decide_eq_true (by omega)
  obtain ⟨n, hn⟩ : ∃ n, l.length = n := ⟨_, rfl⟩
  have HT := Lib.hid ht
  have HA := Lib.hid hall
  have HN := Lib.hid hn
  have hn6 : n ≤ 6 := by omega
  clear hfst hnot hpl h32 h6 hall ht
  rw [hn] at hl6 ⊢
  clear hn
  go_enter Tryd.func8, Tryd.ntmps8
  go_wp2_with fail
  go_loopw [3] (fun i wr => ∃ j : Nat, j ≤ n ∧ i = .int .i64 (j : Int) ∧ Below (w.alloc (.cells #[.string (bs p), .slice A n c] 33)).heap.size (w.alloc (.cells #[.string (bs p), .slice A n c] 33)) wr) (fun i _ => n + 1 - (intOf i).toNat)
  case atStart => exact ⟨0, Nat.zero_le _, rfl, Below.refl _ _⟩
  case round =>
    obtain ⟨j, hj, rfl, hb⟩ := hrel
    have c0 := cell_below hb (cell_of_row (w.alloc (.cells #[.string (bs p), .slice A n c] 33)) w.heap.size 0 _ _ _ (heap_alloc_new w _))
    have c1 := cell_below hb (cell_of_row (w.alloc (.cells #[.string (bs p), .slice A n c] 33)) w.heap.size 1 _ _ _ (heap_alloc_new w _))
    have HB := Lib.hid hb
    by_cases hlt : j < n
    · have hd : decide ((j : Int) < (n : Int)) = true := decide_eq_true (by omega)
      obtain ⟨x, hx⟩ : ∃ x, l[j]? = some x := ⟨_, List.getElem?_eq_getElem (by rw [HN.out]; exact hlt)⟩
      have hT2 := HT.out
      unfold TermsAt at hT2
      simp only [HN.out] at hT2
      obtain ⟨g, rfl, hc⟩ := flat_row termC (fun x => rfl) hT2 HN.out.symm hx
      have hbw := ((Below.refl w.heap.size w).alloc (Nat.le_refl _) (.cells #[.string (bs p), .slice (some ⟨g, 0, none⟩) n c] 33)).trans (hb.mono (by simp))
      have r0 : wr.cell? ⟨g, j * 5, none⟩ = some (.bool x.v) := cell_below hbw (hc 0 _ (by omega) rfl)
      have r1 := cell_below hbw (hc 1 _ (by omega) rfl)
      have r2 := cell_below hbw (hc 2 _ (by omega) rfl)
      have r3 := cell_below hbw (hc 3 _ (by omega) rfl)
      have r4 := cell_below hbw (hc 4 _ (by omega) rfl)
      have HX := Lib.hid (HA.out x (List.mem_of_getElem? hx))
      clear hb hc hT2 hbw hx
      go_wp2_with (go_at_call 9; ((with_reducible refine (one6_calls x _ HX.out).mono ?_); rintro e w1 ⟨rfl, hb1⟩; have HB1 := Lib.hid (below_then HB.out hb1 HB.out.size); clear hb1))
      go_roundw
      case rel => exact ⟨j + 1, hlt, by simp, HB1.out⟩
      case measure => simp [intOf]; omega
    · have hjn : j = n := by omega
      subst hjn
      have hd : decide ((j : Int) < (j : Int)) = false := decide_eq_false (by omega)
      clear hb hlt hj
      go_wp2_with fail
      go_ret
      exact ⟨rfl, ((Below.refl w.heap.size w).alloc (Nat.le_refl _) _).trans (HB.out.mono (by simp))⟩
theorem LitOk.cases' {l : LitL} (h : LitOk l) : (l.k = 3 ∧ l.o ≠ [] ∧ OneOk l.l ∧ OneOk l.r ∧ l.a = atom0) ∨ (l.k = 1 ∧ l.o = [] ∧ FineOk l.a) ∨ (l.k = 2 ∧ l.o = [] ∧ FineOk l.a) := by
  rcases h with h | ⟨h1 | h1, h2, h3⟩
  · exact .inl h
  · exact .inr (.inl ⟨h1, h2, h3⟩)
  · exact .inr (.inr ⟨h1, h2, h3⟩)
theorem parse_all (s : ByteArray) (w : World) (hs : s.size ≤ 9223372036854775807) (hE : ErrW w) {g : List DeclL × List RuleL} (h : parseL s.data.toList = .ok g) :
    Calls Tryd.prog 7 #[.string s] w fun e w' => Below w.heap.size w w' ∧ ∃ (Ad : Option Addr) (nd cd : Nat) (Ar : Option Addr) (nr cr : Nat) (qs : List (RuleL × Value × Value)), e = .returned (.tuple #[.agg #[.slice Ad nd cd, .slice Ar nr cr], .int .i64 0, .int .i64 0]) ∧ nd ≤ 400 ∧ nr ≤ 400 ∧ nr = qs.length ∧ (∀ q ∈ qs, RuleOk q.1) ∧
      w'.ownsRow w.heap.size 36 3 (.slice Ar nr cr) nr (qs.flatMap ruleC) ∧ ∀ q ∈ qs, TermsAt w.heap.size w' q.1.h.a q.2.1 ∧ LitsAt w.heap.size w' q.1.b q.2.2 := by
  refine (parse_calls s w hs hE).mono ?_
  rintro e w' ⟨hb, hp⟩
  rw [h] at hp
  obtain ⟨vd, vr, rfl, hd, ⟨qs, hq, ho, hqs⟩, h4, h5⟩ := hp
  obtain ⟨Ad, cd, rfl⟩ := o_slice hd
  obtain ⟨Ar, cr, rfl⟩ := o_slice ho
  have hl : qs.length = g.2.length := by rw [← hq]; simp
  refine ⟨hb, Ad, _, cd, Ar, _, cr, qs, rfl, h4, by omega, rfl, ?_, ho, hqs⟩
  intro q hq2
  refine parseL_ok _ g h _ ?_
  rw [← hq]
  exact List.mem_map_of_mem hq2

set_option maxRecDepth 100000 in
set_option maxHeartbeats 16000000 in
theorem forms_calls (s : ByteArray) (w : World) (hs : s.size ≤ 1048576) (hE : ErrW w) :
    Calls Tryd.prog 4 #[.string s] w fun e w' => e = .returned (.bool true) ∧ Below w.heap.size w w' := by
  have HE := Lib.hid hE
  clear hE
  have hs9 : s.size ≤ 9223372036854775807 := by omega
  cases hp : parseL s.data.toList with
  | bad a n =>
    have hn : ((n : Int) != 0) = true := by have := parseL_bad hp; simp; omega
    have HP := Lib.hid hp
    clear hp
    go_enter Tryd.func4, Tryd.ntmps4
    go_wp2_with (first
      | (go_at_call 6; ((with_reducible refine (shown6_calls _ HE.out).mono ?_); rintro e w1 ⟨rfl, hb1⟩; have HB1 := Lib.hid hb1; have HE1 := Lib.hid (HE.out.below hb1); clear hb1))
      | (go_at_call 7; ((with_reducible refine (parse_no s _ hs9 HE1.out HP.out).mono ?_); rintro e w2 ⟨hb2, rfl⟩; have HB2 := Lib.hid (HB1.out.trans (hb2.mono HB1.out.size)); clear hb2)))
    go_ret
    exact ⟨rfl, HB2.out.alloc HB2.out.size _⟩
  | ok g =>
    have HPY := Lib.hid (fun (W : World) (hE : ErrW W) => parse_all s W hs9 hE hp)
    clear hp
    go_enter Tryd.func4, Tryd.ntmps4
    go_wp2_with (first
      | (go_at_call 6; ((with_reducible refine (shown6_calls _ HE.out).mono ?_); rintro e w1 ⟨rfl, hb1⟩; have HB1 := Lib.hid hb1; have HE1 := Lib.hid (HE.out.below hb1); clear hb1))
      | (go_at_call 7; ((with_reducible refine (HPY.out _ HE1.out).mono ?_); rintro e w2 ⟨hb2, Ad, nd, cd, Ar, nr, cr, qs, rfl, hnd, hnr, hl, hok, ho, hqs⟩; have HB2 := Lib.hid (HB1.out.trans (hb2.mono HB1.out.size)); have HND := Lib.hid hnd; have HNR := Lib.hid hnr; have HL := Lib.hid hl; have HOK := Lib.hid hok; have HO := Lib.hid ho; have HQS := Lib.hid hqs; clear hb2 hnd hnr hl hok ho hqs)))
    go_loopw [7] (fun i wr => ∃ j : Nat, j ≤ nr ∧ i = .int .i64 (j : Int) ∧ Below (w2.alloc (.cells #[.slice Ad nd cd, .slice Ar nr cr] 26)).heap.size (w2.alloc (.cells #[.slice Ad nd cd, .slice Ar nr cr] 26)) wr) (fun i _ => nr + 1 - (intOf i).toNat)
    case atStart => exact ⟨0, Nat.zero_le _, rfl, Below.refl _ _⟩
    case round =>
      obtain ⟨j, hj, rfl, hb⟩ := hrel
      have c0 := cell_below hb (cell_of_row (w2.alloc (.cells #[.slice Ad nd cd, .slice Ar nr cr] 26)) w2.heap.size 0 _ _ _ (heap_alloc_new w2 _))
      have c1 := cell_below hb (cell_of_row (w2.alloc (.cells #[.slice Ad nd cd, .slice Ar nr cr] 26)) w2.heap.size 1 _ _ _ (heap_alloc_new w2 _))
      have HB := Lib.hid hb
      have hbw2 := ((Below.refl w2.heap.size w2).alloc (Nat.le_refl _) (.cells #[.slice Ad nd cd, .slice Ar nr cr] 26)).trans (hb.mono (by simp))
      have hnr4 := HNR.out
      by_cases hlt : j < nr
      · have hd : decide ((j : Int) < (nr : Int)) = true := decide_eq_true (by omega)
        obtain ⟨⟨⟨hh, bb⟩, va, vb⟩, hx⟩ : ∃ x, qs[j]? = some x := ⟨_, List.getElem?_eq_getElem (by rw [← HL.out]; exact hlt)⟩
        have hm := List.mem_of_getElem? hx
        obtain ⟨hta, ps, hps, hlo, hpt⟩ := HQS.out _ hm
        obtain ⟨hfine, hb8, hlits⟩ := HOK.out _ hm
        simp only at hta hps hlo hfine hb8 hlits
        obtain ⟨Aa, ca, rfl⟩ := o_slice hta
        obtain ⟨Ab, cb, rfl⟩ := o_slice hlo
        obtain ⟨gr, rfl, hc⟩ := flat_row ruleC (fun x => rfl) HO.out HL.out hx
        have r0 : wr.cell? ⟨gr, j * 3, none⟩ = some (.string (bs hh.p)) := cell_below hbw2 (hc 0 _ (by omega) rfl)
        have r1 := cell_below hbw2 (hc 1 _ (by omega) rfl)
        have r2 := cell_below hbw2 (hc 2 _ (by omega) rfl)
        obtain ⟨na, hna⟩ : ∃ na, hh.a.length = na := ⟨_, rfl⟩
        obtain ⟨nb, hnb⟩ : ∃ nb, ps.length = nb := ⟨_, rfl⟩
        have hnb2 : nb = bb.length := by rw [← hps, ← hnb]; simp
        have hnb8 : nb ≤ 8 := by omega
        have hd8 : decide ((8 : Int) < (nb : Int)) = false := decide_eq_false (by omega)
        have HTA := Lib.hid (show TermsAt w1.heap.size wr hh.a _ from hta.below hbw2)
        have HF := Lib.hid hfine
        have HLS := Lib.hid hlits
        have HPS := Lib.hid hps
        have HPT := Lib.hid (fun p hp => (hpt p hp).below hbw2)
        have HLO := Lib.hid (o_kb hlo hbw2)
        have HNB := Lib.hid hnb
        rw [hna] at r1 HTA
        rw [hnb] at r2 HLO
        clear hb hc hx hm hta hps hlo hpt hfine hb8 hlits hbw2 hna hnb hnb2
-- INNER BEGINS
        go_wp2_with (go_at_call 8; ((with_reducible refine (fine6_calls hh _ _ _ HF.out (HTA.out.below ((Below.refl wr.heap.size wr).alloc (Nat.le_refl _) _))).mono ?_); rintro e w3 ⟨rfl, hb3⟩; have d1 : w3.cell? ⟨wr.heap.size, 2, none⟩ = some (.slice Ab nb cb) := cell_below hb3 (cell_of_row (wr.alloc (.cells #[.string (bs hh.p), .slice Aa na ca, .slice Ab nb cb] 36)) wr.heap.size 2 _ _ _ (heap_alloc_new wr _)); have HD1 := Lib.hid d1; have HB3 := Lib.hid ((HB.out.alloc HB.out.size (.cells #[.string (bs hh.p), .slice Aa na ca, .slice Ab nb cb] 36)).trans (hb3.mono (Nat.le_trans HB.out.size (by simp)))); have hb33 := ((Below.refl wr.heap.size wr).alloc (Nat.le_refl _) (.cells #[.string (bs hh.p), .slice Aa na ca, .slice Ab nb cb] 36)).trans (hb3.mono (by simp)); have HLO3 := Lib.hid (o_kb HLO.out hb33); have HPT3 := Lib.hid (fun p hp => (HPT.out p hp).below hb33); clear hb3 hb33))
        obtain ⟨W0, hW0⟩ : ∃ W0, w2.alloc (.cells #[.slice Ad nd cd, .slice (some ⟨gr, 0, none⟩) nr cr] 26) = W0 := ⟨_, rfl⟩
        obtain ⟨T1, hT1⟩ : ∃ T1, wr.heap.size = T1 := ⟨_, rfl⟩
        rw [hW0] at HB3
        rw [hT1] at d1 HD1 ⊢
        go_loopw [9] (fun i wr => ∃ k : Nat, k ≤ nb ∧ i = .int .i64 (k : Int) ∧ Below w3.heap.size w3 wr) (fun i _ => nb + 1 - (intOf i).toNat)
        case atStart => exact ⟨0, Nat.zero_le _, rfl, Below.refl _ _⟩
        case round =>
          obtain ⟨k, hk, rfl, hb⟩ := hrel
          have d1 := cell_below hb HD1.out
          have HBI := Lib.hid hb
          by_cases hkt : k < nb
          · have hkd : decide ((k : Int) < (nb : Int)) = true := decide_eq_true (by omega)
            obtain ⟨⟨⟨lk, ⟨lap, laa⟩, lo, ll, lr⟩, lv⟩, hx⟩ : ∃ x, ps[k]? = some x := ⟨_, List.getElem?_eq_getElem (by rw [HNB.out]; exact hkt)⟩
            have hm := List.mem_of_getElem? hx
            have hlt3 := HPT3.out _ hm
            have hok := HLS.out _ (by rw [← HPS.out]; exact List.mem_map_of_mem hm)
            simp only at hlt3 hok
            obtain ⟨Al, cl, rfl⟩ := o_slice hlt3
            have hlo3 := HLO3.out
            unfold litCells at hlo3
            obtain ⟨gb, rfl, hc⟩ := flat_row (fun p : LitL × Value => litC p.1 p.2) (fun x => rfl) hlo3 HNB.out.symm hx
            have HTL := Lib.hid (show TermsAt w1.heap.size wr laa _ from hlt3.below hb)
            obtain ⟨nl, hnl⟩ : ∃ nl, laa.length = nl := ⟨_, rfl⟩
            have s2 := cell_below hb (hc 2 _ (by omega) rfl)
            have s4 := cell_below hb (hc 4 _ (by omega) rfl)
            have s5 := cell_below hb (hc 5 _ (by omega) rfl)
            have s6 := cell_below hb (hc 6 _ (by omega) rfl)
            have s7 := cell_below hb (hc 7 _ (by omega) rfl)
            have s8 := cell_below hb (hc 8 _ (by omega) rfl)
            have s9 := cell_below hb (hc 9 _ (by omega) rfl)
            have s10 := cell_below hb (hc 10 _ (by omega) rfl)
            have s11 := cell_below hb (hc 11 _ (by omega) rfl)
            have s12 := cell_below hb (hc 12 _ (by omega) rfl)
            have s13 := cell_below hb (hc 13 _ (by omega) rfl)
            rw [hnl] at s2 HTL
            rcases hok.cases' with ⟨h1, h2, h3, h4, h5⟩ | ⟨h1, h2, h3⟩ | ⟨h1, h2, h3⟩
            · simp only [AtomL.mk.injEq, atom0] at h1 h2 h3 h4 h5
              obtain ⟨rfl, rfl⟩ := h5
              subst h1
              have s0 : wr.cell? ⟨gb, k * 14, none⟩ = some (.int .i64 3) := cell_below hb (hc 0 _ (by omega) rfl)
              have s1 : wr.cell? ⟨gb, k * 14 + 1, none⟩ = some (.string ⟨#[]⟩) := cell_below hb (hc 1 _ (by omega) rfl)
              have s3 : wr.cell? ⟨gb, k * 14 + 3, none⟩ = some (.string (bs lo)) := cell_below hb (hc 3 _ (by omega) rfl)
              have hop : (bs lo).toList.isEmpty = false := by rw [bs_list]; cases lo with
                | nil => exact absurd rfl h2
                | cons x y => rfl
              have HO1 := Lib.hid h3
              have HO2 := Lib.hid h4
              clear hb hc hx hm hlt3 hok hlo3 h2 h3 h4 hnl
              go_wp2_with (first
                | (go_at_call 9; ((with_reducible refine (one6_calls ll _ HO1.out).mono ?_); rintro e w5 ⟨rfl, hb5⟩; have t1 : w5.cell? ⟨wr.heap.size, 1, none⟩ = some (.string ⟨#[]⟩) := cell_below hb5 (cell_of_row (wr.alloc (.cells #[.int .i64 3, .string ⟨#[]⟩, .slice Al nl cl, .string (bs lo), .bool ll.v, .string (bs ll.x), .bool ll.s, .string (bs ll.t), .int .i64 ll.n, .bool lr.v, .string (bs lr.x), .bool lr.s, .string (bs lr.t), .int .i64 lr.n] 43)) wr.heap.size 1 _ _ _ (heap_alloc_new wr _)); have t9 : w5.cell? ⟨wr.heap.size, 9, none⟩ = some (.bool lr.v) := cell_below hb5 (cell_of_row (wr.alloc (.cells #[.int .i64 3, .string ⟨#[]⟩, .slice Al nl cl, .string (bs lo), .bool ll.v, .string (bs ll.x), .bool ll.s, .string (bs ll.t), .int .i64 ll.n, .bool lr.v, .string (bs lr.x), .bool lr.s, .string (bs lr.t), .int .i64 lr.n] 43)) wr.heap.size 9 _ _ _ (heap_alloc_new wr _)); have t10 : w5.cell? ⟨wr.heap.size, 10, none⟩ = some (.string (bs lr.x)) := cell_below hb5 (cell_of_row (wr.alloc (.cells #[.int .i64 3, .string ⟨#[]⟩, .slice Al nl cl, .string (bs lo), .bool ll.v, .string (bs ll.x), .bool ll.s, .string (bs ll.t), .int .i64 ll.n, .bool lr.v, .string (bs lr.x), .bool lr.s, .string (bs lr.t), .int .i64 lr.n] 43)) wr.heap.size 10 _ _ _ (heap_alloc_new wr _)); have t11 : w5.cell? ⟨wr.heap.size, 11, none⟩ = some (.bool lr.s) := cell_below hb5 (cell_of_row (wr.alloc (.cells #[.int .i64 3, .string ⟨#[]⟩, .slice Al nl cl, .string (bs lo), .bool ll.v, .string (bs ll.x), .bool ll.s, .string (bs ll.t), .int .i64 ll.n, .bool lr.v, .string (bs lr.x), .bool lr.s, .string (bs lr.t), .int .i64 lr.n] 43)) wr.heap.size 11 _ _ _ (heap_alloc_new wr _)); have t12 : w5.cell? ⟨wr.heap.size, 12, none⟩ = some (.string (bs lr.t)) := cell_below hb5 (cell_of_row (wr.alloc (.cells #[.int .i64 3, .string ⟨#[]⟩, .slice Al nl cl, .string (bs lo), .bool ll.v, .string (bs ll.x), .bool ll.s, .string (bs ll.t), .int .i64 ll.n, .bool lr.v, .string (bs lr.x), .bool lr.s, .string (bs lr.t), .int .i64 lr.n] 43)) wr.heap.size 12 _ _ _ (heap_alloc_new wr _)); have t13 : w5.cell? ⟨wr.heap.size, 13, none⟩ = some (.int .i64 lr.n) := cell_below hb5 (cell_of_row (wr.alloc (.cells #[.int .i64 3, .string ⟨#[]⟩, .slice Al nl cl, .string (bs lo), .bool ll.v, .string (bs ll.x), .bool ll.s, .string (bs ll.t), .int .i64 ll.n, .bool lr.v, .string (bs lr.x), .bool lr.s, .string (bs lr.t), .int .i64 lr.n] 43)) wr.heap.size 13 _ _ _ (heap_alloc_new wr _)); have HB5 := Lib.hid (((HBI.out.alloc HBI.out.size (.cells #[.int .i64 3, .string ⟨#[]⟩, .slice Al nl cl, .string (bs lo), .bool ll.v, .string (bs ll.x), .bool ll.s, .string (bs ll.t), .int .i64 ll.n, .bool lr.v, .string (bs lr.x), .bool lr.s, .string (bs lr.t), .int .i64 lr.n] 43)).trans (hb5.mono (Nat.le_trans HBI.out.size (by simp))))); clear hb5))
                | (go_at_call 9; ((with_reducible refine (one6_calls lr _ HO2.out).mono ?_); rintro e w6 ⟨rfl, hb6⟩; have t1 := cell_below hb6 t1; have HB6 := Lib.hid (HB5.out.trans (hb6.mono HB5.out.size)); clear hb6)))
              go_roundw
              case rel => exact ⟨k + 1, hkt, by simp, HB6.out⟩
              case measure => simp [intOf]; omega
            · simp only at h1 h2 h3
              subst h1 h2
              have s0 : wr.cell? ⟨gb, k * 14, none⟩ = some (.int .i64 1) := cell_below hb (hc 0 _ (by omega) rfl)
              have s1 : wr.cell? ⟨gb, k * 14 + 1, none⟩ = some (.string (bs lap)) := cell_below hb (hc 1 _ (by omega) rfl)
              have s3 : wr.cell? ⟨gb, k * 14 + 3, none⟩ = some (.string ⟨#[]⟩) := cell_below hb (hc 3 _ (by omega) rfl)
              have HFI := Lib.hid (show ∀ W, TermsAt w1.heap.size W laa (.slice Al nl cl) → Calls Tryd.prog 8 #[.agg #[.string (bs lap), .slice Al nl cl]] W (fun e w' => e = .returned (.bool true) ∧ Below W.heap.size W w') from fun W h => fine6_calls ⟨lap, laa⟩ _ _ W h3 h)
              clear hb hc hx hm hlt3 hok hlo3 h3 hnl
              go_wp2_with (go_at_call 8; ((with_reducible refine (HFI.out _ (HTL.out.below ((Below.refl wr.heap.size wr).alloc (Nat.le_refl _) _))).mono ?_); rintro e w5 ⟨rfl, hb5⟩; have t0 : w5.cell? ⟨wr.heap.size, 0, none⟩ = some (.int .i64 1) := cell_below hb5 (cell_of_row (wr.alloc (.cells #[.int .i64 1, .string (bs lap), .slice Al nl cl, .string ⟨#[]⟩, .bool ll.v, .string (bs ll.x), .bool ll.s, .string (bs ll.t), .int .i64 ll.n, .bool lr.v, .string (bs lr.x), .bool lr.s, .string (bs lr.t), .int .i64 lr.n] 43)) wr.heap.size 0 _ _ _ (heap_alloc_new wr _)); have HB5 := Lib.hid (((HBI.out.alloc HBI.out.size (.cells #[.int .i64 1, .string (bs lap), .slice Al nl cl, .string ⟨#[]⟩, .bool ll.v, .string (bs ll.x), .bool ll.s, .string (bs ll.t), .int .i64 ll.n, .bool lr.v, .string (bs lr.x), .bool lr.s, .string (bs lr.t), .int .i64 lr.n] 43)).trans (hb5.mono (Nat.le_trans HBI.out.size (by simp))))); clear hb5))
              go_roundw
              case rel => exact ⟨k + 1, hkt, by simp, HB5.out⟩
              case measure => simp [intOf]; omega
            · simp only at h1 h2 h3
              subst h1 h2
              have s0 : wr.cell? ⟨gb, k * 14, none⟩ = some (.int .i64 2) := cell_below hb (hc 0 _ (by omega) rfl)
              have s1 : wr.cell? ⟨gb, k * 14 + 1, none⟩ = some (.string (bs lap)) := cell_below hb (hc 1 _ (by omega) rfl)
              have s3 : wr.cell? ⟨gb, k * 14 + 3, none⟩ = some (.string ⟨#[]⟩) := cell_below hb (hc 3 _ (by omega) rfl)
              have HFI := Lib.hid (show ∀ W, TermsAt w1.heap.size W laa (.slice Al nl cl) → Calls Tryd.prog 8 #[.agg #[.string (bs lap), .slice Al nl cl]] W (fun e w' => e = .returned (.bool true) ∧ Below W.heap.size W w') from fun W h => fine6_calls ⟨lap, laa⟩ _ _ W h3 h)
              clear hb hc hx hm hlt3 hok hlo3 h3 hnl
              go_wp2_with (go_at_call 8; ((with_reducible refine (HFI.out _ (HTL.out.below ((Below.refl wr.heap.size wr).alloc (Nat.le_refl _) _))).mono ?_); rintro e w5 ⟨rfl, hb5⟩; have t0 : w5.cell? ⟨wr.heap.size, 0, none⟩ = some (.int .i64 2) := cell_below hb5 (cell_of_row (wr.alloc (.cells #[.int .i64 2, .string (bs lap), .slice Al nl cl, .string ⟨#[]⟩, .bool ll.v, .string (bs ll.x), .bool ll.s, .string (bs ll.t), .int .i64 ll.n, .bool lr.v, .string (bs lr.x), .bool lr.s, .string (bs lr.t), .int .i64 lr.n] 43)) wr.heap.size 0 _ _ _ (heap_alloc_new wr _)); have HB5 := Lib.hid (((HBI.out.alloc HBI.out.size (.cells #[.int .i64 2, .string (bs lap), .slice Al nl cl, .string ⟨#[]⟩, .bool ll.v, .string (bs ll.x), .bool ll.s, .string (bs ll.t), .int .i64 ll.n, .bool lr.v, .string (bs lr.x), .bool lr.s, .string (bs lr.t), .int .i64 lr.n] 43)).trans (hb5.mono (Nat.le_trans HBI.out.size (by simp))))); clear hb5))
              go_roundw
              case rel => exact ⟨k + 1, hkt, by simp, HB5.out⟩
              case measure => simp [intOf]; omega
          · have hkn : k = nb := by omega
            subst hkn
            have hkd : decide ((k : Int) < (k : Int)) = false := decide_eq_false (by omega)
            clear hb hkt hk
            go_wp2_with fail
            go_roundw
            case rel => exact ⟨j + 1, hlt, by simp, by rw [hW0]; exact HB3.out.trans (HBI.out.mono HB3.out.size)⟩
            case measure => simp [intOf]; omega
-- INNER ENDS
      · have hjn : j = nr := by omega
        subst hjn
        have hd : decide ((j : Int) < (j : Int)) = false := decide_eq_false (by omega)
        have hd4 : decide ((j : Int) ≤ 400) = true := decide_eq_true (by omega)
        have hnd4 : decide ((nd : Int) ≤ 400) = true := decide_eq_true (by have := HND.out; omega)
        clear hb hlt hj hbw2
        go_wp2_with fail
        go_ret
        exact ⟨rfl, (HB2.out.alloc HB2.out.size _).trans (HB.out.mono (by have := HB2.out.size; simp; omega))⟩
end Go.Proofs.YthhfjimhfehimaaDoor.V
