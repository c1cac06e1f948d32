/- parse.Atom: a text's atom. -/
import Derived.Test.YthhfjimhfehimaaDoorParse
namespace Go.Proofs.YthhfjimhfehimaaDoor.V
set_option linter.unusedVariables false
set_option linter.unusedSimpArgs false
open Go.RowKit

/-- What Atom hands back. -/
def PAtomIs (s : ByteArray) (w : World) (e : Ending) (w' : World) : Prop :=
  Below w.heap.size w w' ∧ match atomL s.data.toList with
    | .bad a n => e = .returned (.tuple #[.agg #[.string ⟨#[]⟩, .slice none 0 0], .int .i64 (a : Int), .int .i64 (n : Int)])
    | .ok x => ∃ v, e = .returned (.tuple #[.agg #[.string (bs x.p), v], .int .i64 0, .int .i64 0]) ∧ TermsAt w.heap.size w' x.a v

set_option maxRecDepth 100000 in
set_option maxHeartbeats 16000000 in
theorem patom_calls (s : ByteArray) (w : World) (hs : s.size ≤ 9223372036854775807) (hE : ErrW w) :
    Calls Tryd.prog 10 #[.string s] w (PAtomIs s w) := by
  have HE := Lib.hid (hE.below ((Below.refl w.heap.size w).alloc (Nat.le_refl _) (.cells #[.string ⟨#[]⟩, .slice none 0 0] 33)))
  have HR0 := Lib.hid (heap_alloc_new w (.cells #[.string ⟨#[]⟩, .slice none 0 0] 33))
  clear hE
  cases ho : scanL s.data.toList with
  | bad a n =>
    have HO := Lib.hid ho
    have HF := Lib.hid (show atomL s.data.toList = .bad a n by unfold atomL; rw [ho])
    have HBB := Lib.hid (show ((n : Int) == 0) = false by have := scan_bad ho; simp; omega)
    clear ho
    go_enter Tryd.func10, Tryd.ntmps10
    go_wp2_with (first
      | (go_at_call 11; ((with_reducible refine (parsing_calls s _ hs HE.out).mono ?_); rintro e w2 ⟨P, rfl, hP, hb, hsc⟩; rw [HO.out] at hsc; obtain ⟨hn, hp⟩ := hsc; have hb3 := (Below.refl w2.heap.size w2).alloc (Nat.le_refl _) (.cells #[.string ⟨#[]⟩, .slice none 0 0] 33); have hp3 := (hb3.block P (Array.getElem?_eq_some_iff.1 hp).1).trans hp; have hr3 := (hb3.block w.heap.size (Nat.lt_of_lt_of_le (by simp) hb.size)).trans ((hb.block w.heap.size (by simp)).trans HR0.out); have c0 := cell_of_row _ P 0 _ _ _ hp3; have c1 := cell_of_row _ P 1 _ _ _ hp3; have c3 := cell_of_row _ P 3 _ _ _ hp3; have c4 := cell_of_row _ P 4 _ _ _ hp3; have C4 := Lib.hid c4; have z0 := cell_of_row _ w.heap.size 0 _ _ _ hr3; have z1 := cell_of_row _ w.heap.size 1 _ _ _ hr3; have y0 := frozen_of_row _ w.heap.size 0 _ _ hr3; have y1 := frozen_of_row _ w.heap.size 1 _ _ hr3; have HB := Lib.hid hb; have HRR := Lib.hid hr3; clear hn hp hb hb3 hp3 hr3))
      | (go_at_call 12; ((with_reducible refine (pokq false _ ?_ HBB.out).mono ?_); (focus (exact C4.out)); rintro e w' ⟨rfl, hw⟩; rw [hw]; clear hw)))
    go_region
    go_wp2_with (first
      | (go_at_call 12; ((with_reducible refine (pokq false _ ?_ HBB.out).mono ?_); (focus (exact C4.out)); rintro e w' ⟨rfl, hw⟩; rw [hw]; clear hw)))
    go_region
    go_wp2_with fail
    -- THE END
    have hB2 : Below w.heap.size w (w2.alloc (.cells #[.string ⟨#[]⟩, .slice none 0 0] 33)) := ((((Below.refl w.heap.size w).alloc (Nat.le_refl _) (.cells #[.string ⟨#[]⟩, .slice none 0 0] 33)).trans (HB.out.mono (by simp))).alloc (by have := HB.out.size; simp at this; omega) _)
    have hset := set_at (i := 1) (cs' := #[.string ⟨#[]⟩, .slice none 0 0]) (set_at (i := 0) (cs' := #[.string ⟨#[]⟩, .slice none 0 0]) HRR.out (.string ⟨#[]⟩) rfl) (.slice none 0 0) rfl
    have q0 := cell_of_row _ _ 0 _ _ _ hset
    have q1 := cell_of_row _ _ 1 _ _ _ hset
    refine bodyPost_ret (v := .tuple #[.agg #[.string ⟨#[]⟩, .slice none 0 0], .int .i64 (a : Int), .int .i64 (n : Int)]) (by simp [results, Tryd.results10, go_sem, q0, q1]) rfl ⟨((hB2.setCell (Nat.le_refl _) _).setCell (Nat.le_refl _) _).drew.drew, ?_⟩
    rw [HF.out]
  | ok l =>
    have HO := Lib.hid ho
    have HMAX := Lib.hid (scanL_max ho)
    have HF0 := Lib.hid (show atomL s.data.toList = match atomP s.size l with | .bad a e => .bad a e | .ok x [] => .ok x | .ok x (t :: _) => .bad t.2 2 by
      unfold atomL
      rw [ho]
      simp only [Array.length_toList, ByteArray.size_data]
      rfl)
    clear ho
    cases ha : atomP s.size l with
    | bad a n =>
      have HAT := Lib.hid ha
      have HF := Lib.hid (show atomL s.data.toList = .bad a n by rw [HF0.out, ha])
      clear ha
      go_enter Tryd.func10, Tryd.ntmps10
      go_wp2_with (first
        | (go_at_call 11; ((with_reducible refine (parsing_calls s _ hs HE.out).mono ?_); rintro e w2 ⟨P, rfl, hP, hb, hsc⟩; rw [HO.out] at hsc; obtain ⟨A, c, hp⟩ := hsc; have HPG := Lib.hid (show w.heap.size + 1 ≤ P by simpa using hP); have HPL := Lib.hid hp.lt; have HB := Lib.hid hb; have hs3 := hp.below ((Below.refl w2.heap.size w2).alloc (Nat.le_refl _) (.cells #[.string ⟨#[]⟩, .slice none 0 0] 33)); have HS3 := Lib.hid hs3; have C4 := Lib.hid hs3.c4; have HSZ := Lib.hid (show w.heap.size + 1 ≤ w2.heap.size by have := hb.size; simpa using this); have HR3 := Lib.hid (blk_keep (blk_keep HR0.out (grown_below hb none) (by simp)) (World.grownBy_alloc w2 (.cells #[.string ⟨#[]⟩, .slice none 0 0] 33) none) (by simp)); have HA3 := Lib.hid (heap_alloc_new w2 (.cells #[.string ⟨#[]⟩, .slice none 0 0] 33)); have HB3 := Lib.hid (show Below w.heap.size w (w2.alloc (.cells #[.string ⟨#[]⟩, .slice none 0 0] 33)) from ((((Below.refl w.heap.size w).alloc (Nat.le_refl _) (.cells #[.string ⟨#[]⟩, .slice none 0 0] 33)).trans (hb.mono (by simp))).alloc (by have := hb.size; simp at this; omega) _)); clear hP hb hp hs3))
        | (go_at_call 12; ((with_reducible refine (pokq true _ C4.out rfl).mono ?_); rintro e w' ⟨rfl, hw⟩; rw [hw]; clear hw))
        | (go_at_call 14; ((with_reducible refine (atom_calls (r := l) _ (po_at (nx := 0) (Nat.zero_le _) rfl HS3.out) HMAX.out).mono ?_); rintro e w4 ⟨hg4, x, v, rfl, hta, hgot⟩; obtain ⟨Aa, ca, rfl⟩ := o_slice hta; rw [HAT.out] at hgot; obtain ⟨he0, nx1, hnx1, hS1⟩ := hgot; have hr4 := blk_keep HR3.out hg4 (by have := HPG.out; simp; omega); have ha4 := blk_keep HA3.out hg4 (by have := HPL.out; simp; omega); have k0 := cell_of_row w4 w2.heap.size 0 _ _ _ ha4; have k1 := cell_of_row w4 w2.heap.size 1 _ _ _ ha4; have l0 := frozen_of_row w4 w2.heap.size 0 _ _ ha4; have l1 := frozen_of_row w4 w2.heap.size 1 _ _ ha4; have HR4 := Lib.hid hr4; have HA4 := Lib.hid ha4; have HTA := Lib.hid hta; have HG4 := Lib.hid hg4; have HBB := Lib.hid (show ((n : Int) == 0) = false by simp; omega); have HS4 := Lib.hid hS1; have HN1 := Lib.hid hnx1; clear hnx1 hS1 hg4 hr4 ha4 hta; refine RowKit.Hid.out ?_)))
      refine Lib.hid ?_
      go_wp2_with fail
      have hgS := grown_set (grown_set (World.grownBy.refl w4 (some w2.heap.size)) 0 (.string (bs x.p))) 1 (.slice Aa x.a.length ca)
      have hS5 := HS4.out.step hgS (fun j hj => by cases hj; exact ⟨by have := HPL.out; omega, _, _, _, HA4.out, by decide⟩)
      have hr5 := blk_keep HR4.out hgS (by have := HSZ.out; simp; omega)
      have ha5 := set_at (i := 1) (cs' := #[.string (bs x.p), .slice Aa x.a.length ca]) (set_at (i := 0) (cs' := #[.string (bs x.p), .slice none 0 0]) HA4.out (.string (bs x.p)) rfl) (.slice Aa x.a.length ca) rfl
      have hta5 : TermsAt (w2.heap.size + 1) ((w4.setCell ⟨w2.heap.size, 0, none⟩ (.string (bs x.p))).setCell ⟨w2.heap.size, 1, none⟩ (.slice Aa x.a.length ca)) x.a (.slice Aa x.a.length ca) := (TermsAt.base HTA.out (by simp)).kept hgS (fun j hj => by cases hj; exact .inl (Nat.lt_succ_self _))
      have hB4 : Below w.heap.size w w4 := HB3.out.grown HG4.out (by have := HSZ.out; simp; omega) (fun j hj => by cases hj; have := HPG.out; omega)
      have hB5 : Below w.heap.size w ((w4.setCell ⟨w2.heap.size, 0, none⟩ (.string (bs x.p))).setCell ⟨w2.heap.size, 1, none⟩ (.slice Aa x.a.length ca)) := (hB4.setCell (by have := HSZ.out; show w.heap.size ≤ w2.heap.size; omega) _).setCell (by have := HSZ.out; show w.heap.size ≤ w2.heap.size; omega) _
      have HS5 := Lib.hid hS5
      have HR5 := Lib.hid hr5
      have HA5 := Lib.hid ha5
      have HT5 := Lib.hid hta5
      have HB5 := Lib.hid hB5
      have c0 := hS5.c0; have c1 := hS5.c1; have c3 := hS5.c3; have c4 := hS5.c4
      have z0 := cell_of_row _ _ 0 _ _ _ hr5; have z1 := cell_of_row _ _ 1 _ _ _ hr5
      have y0 := frozen_of_row _ _ 0 _ _ hr5; have y1 := frozen_of_row _ _ 1 _ _ hr5
      have a0 := cell_of_row _ _ 0 _ _ _ ha5; have a1 := cell_of_row _ _ 1 _ _ _ ha5
      have C4' := Lib.hid c4
      clear hgS hS5 hr5 ha5 hta5 hB4 hB5 k0 k1 l0 l1
      obtain ⟨⟨⟨k2, s2, n2, q2⟩, a2⟩, hp2⟩ : ∃ p, pk s.size (l.drop nx1) 0 = p := ⟨_, rfl⟩
      have HP2 := Lib.hid hp2
      clear hp2
      by_cases hlt : nx1 < l.length
      · have hd : decide ((nx1 : Int) < (l.length : Int)) = true := decide_eq_true (by omega)
        go_region
        clear c0 c1 c3 c4 z0 z1 y0 y1 a0 a1
        go_wp2_with (first
          | (go_at_call 16; ((with_reducible refine (peek0_calls ⟨k2, s2, n2, q2⟩ a2 _ (HS5.out.below (Below.refl _ _).drew) HP2.out).mono ?_); rintro e w6 ⟨rfl, hb6⟩; have HB6 := Lib.hid (HB5.out.drew.trans (Below.mono (hb6) HB5.out.size)); have HS6 := Lib.hid ((HS5.out.below (Below.refl _ _).drew).below hb6); have HR6 := Lib.hid (blk_keep HR5.out (un_drew (grown_below hb6 none)) (by simp)); clear hb6))
          | (go_at_call 15; ((with_reducible refine (fail_bad_calls _ (bs s2) n2 q2 a2 2 _ HS6.out HBB.out).mono ?_); rintro e w7 ⟨rfl, hb7⟩; have HS7 := Lib.hid (HS6.out.below hb7); have HB7 := Lib.hid (HB6.out.trans (hb7.mono HB6.out.size)); have hr7 := blk_keep HR6.out (grown_below hb7 none) (by simp); have HR7 := Lib.hid hr7; have d3 := HS7.out.c3; have d4 := HS7.out.c4; have D4 := Lib.hid d4; have x0 := cell_of_row w7 w.heap.size 0 _ _ _ HR7.out; have x1 := cell_of_row w7 w.heap.size 1 _ _ _ HR7.out; have x2 := frozen_of_row w7 w.heap.size 0 _ _ HR7.out; have x3 := frozen_of_row w7 w.heap.size 1 _ _ HR7.out; clear hb7 hr7))
          | (go_at_call 12; ((with_reducible refine (pokq false _ D4.out HBB.out).mono ?_); rintro e w' ⟨rfl, hw⟩; rw [hw]; clear hw)))
        go_region
        go_wp2_with fail
        have hset := set_at (i := 1) (cs' := #[.string ⟨#[]⟩, .slice none 0 0]) (set_at (i := 0) (cs' := #[.string ⟨#[]⟩, .slice none 0 0]) HR7.out (.string ⟨#[]⟩) rfl) (.slice none 0 0) rfl
        have q0 := cell_of_row _ _ 0 _ _ _ hset
        have q1 := cell_of_row _ _ 1 _ _ _ hset
        refine bodyPost_ret (v := .tuple #[.agg #[.string ⟨#[]⟩, .slice none 0 0], .int .i64 (a : Int), .int .i64 (n : Int)]) (by simp [results, Tryd.results10, go_sem, q0, q1]) rfl ⟨((HB7.out.setCell (Nat.le_refl _) _).setCell (Nat.le_refl _) _).drew, ?_⟩
        rw [HF.out]
      · have hd : decide ((nx1 : Int) < (l.length : Int)) = false := decide_eq_false (by omega)
        go_region
        go_wp2_with (go_at_call 12; ((with_reducible refine (pokq false _ ?_ HBB.out).mono ?_); (focus (exact C4'.out)); rintro e w' ⟨rfl, hw⟩; rw [hw]; clear hw))
        go_region
        go_wp2_with fail
        have hset := set_at (i := 1) (cs' := #[.string ⟨#[]⟩, .slice none 0 0]) (set_at (i := 0) (cs' := #[.string ⟨#[]⟩, .slice none 0 0]) HR5.out (.string ⟨#[]⟩) rfl) (.slice none 0 0) rfl
        have q0 := cell_of_row _ _ 0 _ _ _ hset
        have q1 := cell_of_row _ _ 1 _ _ _ hset
        refine bodyPost_ret (v := .tuple #[.agg #[.string ⟨#[]⟩, .slice none 0 0], .int .i64 (a : Int), .int .i64 (n : Int)]) (by simp [results, Tryd.results10, go_sem, q0, q1]) rfl ⟨((HB5.out.setCell (Nat.le_refl _) _).setCell (Nat.le_refl _) _).drew.drew, ?_⟩
        rw [HF.out]
    | ok x0 r0 =>
      have HAT := Lib.hid ha
      cases hr0 : r0 with
      | nil =>
        have HF := Lib.hid (show atomL s.data.toList = .ok x0 by rw [HF0.out, ha, hr0])
        have HR0N := Lib.hid hr0
        clear ha hr0
        go_enter Tryd.func10, Tryd.ntmps10
        go_wp2_with (first
          | (go_at_call 11; ((with_reducible refine (parsing_calls s _ hs HE.out).mono ?_); rintro e w2 ⟨P, rfl, hP, hb, hsc⟩; rw [HO.out] at hsc; obtain ⟨A, c, hp⟩ := hsc; have HPG := Lib.hid (show w.heap.size + 1 ≤ P by simpa using hP); have HPL := Lib.hid hp.lt; have HB := Lib.hid hb; have hs3 := hp.below ((Below.refl w2.heap.size w2).alloc (Nat.le_refl _) (.cells #[.string ⟨#[]⟩, .slice none 0 0] 33)); have HS3 := Lib.hid hs3; have C4 := Lib.hid hs3.c4; have HSZ := Lib.hid (show w.heap.size + 1 ≤ w2.heap.size by have := hb.size; simpa using this); have HR3 := Lib.hid (blk_keep (blk_keep HR0.out (grown_below hb none) (by simp)) (World.grownBy_alloc w2 (.cells #[.string ⟨#[]⟩, .slice none 0 0] 33) none) (by simp)); have HA3 := Lib.hid (heap_alloc_new w2 (.cells #[.string ⟨#[]⟩, .slice none 0 0] 33)); have HB3 := Lib.hid (show Below w.heap.size w (w2.alloc (.cells #[.string ⟨#[]⟩, .slice none 0 0] 33)) from ((((Below.refl w.heap.size w).alloc (Nat.le_refl _) (.cells #[.string ⟨#[]⟩, .slice none 0 0] 33)).trans (hb.mono (by simp))).alloc (by have := hb.size; simp at this; omega) _)); clear hP hb hp hs3))
          | (go_at_call 12; ((with_reducible refine (pokq true _ C4.out rfl).mono ?_); rintro e w' ⟨rfl, hw⟩; rw [hw]; clear hw))
          | (go_at_call 14; ((with_reducible refine (atom_calls (r := l) _ (po_at (nx := 0) (Nat.zero_le _) rfl HS3.out) HMAX.out).mono ?_); rintro e w4 ⟨hg4, x, v, rfl, hta, hgot⟩; obtain ⟨Aa, ca, rfl⟩ := o_slice hta; rw [HAT.out] at hgot; obtain ⟨hxx, nx1, hnx1, hr1, hS1⟩ := hgot; have hr4 := blk_keep HR3.out hg4 (by have := HPG.out; simp; omega); have ha4 := blk_keep HA3.out hg4 (by have := HPL.out; simp; omega); have k0 := cell_of_row w4 w2.heap.size 0 _ _ _ ha4; have k1 := cell_of_row w4 w2.heap.size 1 _ _ _ ha4; have l0 := frozen_of_row w4 w2.heap.size 0 _ _ ha4; have l1 := frozen_of_row w4 w2.heap.size 1 _ _ ha4; have HR4 := Lib.hid hr4; have HA4 := Lib.hid ha4; have HTA := Lib.hid hta; have HG4 := Lib.hid hg4; have HXX := Lib.hid hxx; have HR1 := Lib.hid hr1; clear hxx hr1; have HS4 := Lib.hid hS1; have HN1 := Lib.hid hnx1; clear hnx1 hS1 hg4 hr4 ha4 hta; refine RowKit.Hid.out ?_)))
        refine Lib.hid ?_
        go_wp2_with fail
        have hgS := grown_set (grown_set (World.grownBy.refl w4 (some w2.heap.size)) 0 (.string (bs x.p))) 1 (.slice Aa x.a.length ca)
        have hS5 := HS4.out.step hgS (fun j hj => by cases hj; exact ⟨by have := HPL.out; omega, _, _, _, HA4.out, by decide⟩)
        have hr5 := blk_keep HR4.out hgS (by have := HSZ.out; simp; omega)
        have ha5 := set_at (i := 1) (cs' := #[.string (bs x.p), .slice Aa x.a.length ca]) (set_at (i := 0) (cs' := #[.string (bs x.p), .slice none 0 0]) HA4.out (.string (bs x.p)) rfl) (.slice Aa x.a.length ca) rfl
        have hta5 : TermsAt (w2.heap.size + 1) ((w4.setCell ⟨w2.heap.size, 0, none⟩ (.string (bs x.p))).setCell ⟨w2.heap.size, 1, none⟩ (.slice Aa x.a.length ca)) x.a (.slice Aa x.a.length ca) := (TermsAt.base HTA.out (by simp)).kept hgS (fun j hj => by cases hj; exact .inl (Nat.lt_succ_self _))
        have hB4 : Below w.heap.size w w4 := HB3.out.grown HG4.out (by have := HSZ.out; simp; omega) (fun j hj => by cases hj; have := HPG.out; omega)
        have hB5 : Below w.heap.size w ((w4.setCell ⟨w2.heap.size, 0, none⟩ (.string (bs x.p))).setCell ⟨w2.heap.size, 1, none⟩ (.slice Aa x.a.length ca)) := (hB4.setCell (by have := HSZ.out; show w.heap.size ≤ w2.heap.size; omega) _).setCell (by have := HSZ.out; show w.heap.size ≤ w2.heap.size; omega) _
        have HS5 := Lib.hid hS5
        have HR5 := Lib.hid hr5
        have HA5 := Lib.hid ha5
        have HT5 := Lib.hid hta5
        have HB5 := Lib.hid hB5
        have c0 := hS5.c0; have c1 := hS5.c1; have c3 := hS5.c3; have c4 := hS5.c4
        have z0 := cell_of_row _ _ 0 _ _ _ hr5; have z1 := cell_of_row _ _ 1 _ _ _ hr5
        have y0 := frozen_of_row _ _ 0 _ _ hr5; have y1 := frozen_of_row _ _ 1 _ _ hr5
        have a0 := cell_of_row _ _ 0 _ _ _ ha5; have a1 := cell_of_row _ _ 1 _ _ _ ha5
        have C4' := Lib.hid c4
        clear hgS hS5 hr5 ha5 hta5 hB4 hB5 k0 k1 l0 l1
        have hlt : ¬ nx1 < l.length := by have h1 := congrArg List.length HR1.out; have h2 := HN1.out; rw [HR0N.out] at h1; simp at h1; omega
        have hd : decide ((nx1 : Int) < (l.length : Int)) = false := decide_eq_false (by omega)
        go_region
        go_wp2_with (go_at_call 12; ((with_reducible refine (pokq true _ ?_ (show ((0 : Int) == 0) = true from rfl)).mono ?_); (focus (exact C4'.out)); rintro e w' ⟨rfl, hw⟩; rw [hw]; clear hw))
        have hset := set_at (i := 1) (cs' := #[.string (bs x.p), .slice Aa x.a.length ca]) (set_at (i := 0) (cs' := #[.string (bs x.p), .slice none 0 0]) HR5.out (.string (bs x.p)) rfl) (.slice Aa x.a.length ca) rfl
        have q0 := cell_of_row _ _ 0 _ _ _ hset
        have q1 := cell_of_row _ _ 1 _ _ _ hset
        refine bodyPost_ret (v := .tuple #[.agg #[.string (bs x.p), .slice Aa x.a.length ca], .int .i64 0, .int .i64 0]) ?_ rfl ?_
        · simp [results, Tryd.results10, go_sem, q0, q1]
        refine ⟨((HB5.out.setCell (Nat.le_refl _) _).setCell (Nat.le_refl _) _).drew, ?_⟩
        rw [HF.out, HXX.out]
        have hg2 := grown_set (grown_set (World.grownBy.refl ((w4.setCell ⟨w2.heap.size, 0, none⟩ (.string (bs x.p))).setCell ⟨w2.heap.size, 1, none⟩ (.slice Aa x.a.length ca)) (some w.heap.size)) 0 (.string (bs x.p))) 1 (.slice Aa x.a.length ca)
        exact ⟨_, rfl, TermsAt.base (HT5.out.kept (row := some w.heap.size) (grown_drew hg2) (fun j hj => by cases hj; exact .inl (by have := HSZ.out; omega))) (by have := HSZ.out; omega)⟩
      | cons t0 r1 =>
        have HF := Lib.hid (show atomL s.data.toList = .bad t0.2 2 by rw [HF0.out, ha, hr0])
        have HR0N := Lib.hid hr0
        clear ha hr0
        go_enter Tryd.func10, Tryd.ntmps10
        go_wp2_with (first
          | (go_at_call 11; ((with_reducible refine (parsing_calls s _ hs HE.out).mono ?_); rintro e w2 ⟨P, rfl, hP, hb, hsc⟩; rw [HO.out] at hsc; obtain ⟨A, c, hp⟩ := hsc; have HPG := Lib.hid (show w.heap.size + 1 ≤ P by simpa using hP); have HPL := Lib.hid hp.lt; have HB := Lib.hid hb; have hs3 := hp.below ((Below.refl w2.heap.size w2).alloc (Nat.le_refl _) (.cells #[.string ⟨#[]⟩, .slice none 0 0] 33)); have HS3 := Lib.hid hs3; have C4 := Lib.hid hs3.c4; have HSZ := Lib.hid (show w.heap.size + 1 ≤ w2.heap.size by have := hb.size; simpa using this); have HR3 := Lib.hid (blk_keep (blk_keep HR0.out (grown_below hb none) (by simp)) (World.grownBy_alloc w2 (.cells #[.string ⟨#[]⟩, .slice none 0 0] 33) none) (by simp)); have HA3 := Lib.hid (heap_alloc_new w2 (.cells #[.string ⟨#[]⟩, .slice none 0 0] 33)); have HB3 := Lib.hid (show Below w.heap.size w (w2.alloc (.cells #[.string ⟨#[]⟩, .slice none 0 0] 33)) from ((((Below.refl w.heap.size w).alloc (Nat.le_refl _) (.cells #[.string ⟨#[]⟩, .slice none 0 0] 33)).trans (hb.mono (by simp))).alloc (by have := hb.size; simp at this; omega) _)); clear hP hb hp hs3))
          | (go_at_call 12; ((with_reducible refine (pokq true _ C4.out rfl).mono ?_); rintro e w' ⟨rfl, hw⟩; rw [hw]; clear hw))
          | (go_at_call 14; ((with_reducible refine (atom_calls (r := l) _ (po_at (nx := 0) (Nat.zero_le _) rfl HS3.out) HMAX.out).mono ?_); rintro e w4 ⟨hg4, x, v, rfl, hta, hgot⟩; obtain ⟨Aa, ca, rfl⟩ := o_slice hta; rw [HAT.out] at hgot; obtain ⟨hxx, nx1, hnx1, hr1, hS1⟩ := hgot; have hr4 := blk_keep HR3.out hg4 (by have := HPG.out; simp; omega); have ha4 := blk_keep HA3.out hg4 (by have := HPL.out; simp; omega); have k0 := cell_of_row w4 w2.heap.size 0 _ _ _ ha4; have k1 := cell_of_row w4 w2.heap.size 1 _ _ _ ha4; have l0 := frozen_of_row w4 w2.heap.size 0 _ _ ha4; have l1 := frozen_of_row w4 w2.heap.size 1 _ _ ha4; have HR4 := Lib.hid hr4; have HA4 := Lib.hid ha4; have HTA := Lib.hid hta; have HG4 := Lib.hid hg4; have HXX := Lib.hid hxx; have HR1 := Lib.hid hr1; clear hxx hr1; have HS4 := Lib.hid hS1; have HN1 := Lib.hid hnx1; clear hnx1 hS1 hg4 hr4 ha4 hta; refine RowKit.Hid.out ?_)))
        refine Lib.hid ?_
        go_wp2_with fail
        have hgS := grown_set (grown_set (World.grownBy.refl w4 (some w2.heap.size)) 0 (.string (bs x.p))) 1 (.slice Aa x.a.length ca)
        have hS5 := HS4.out.step hgS (fun j hj => by cases hj; exact ⟨by have := HPL.out; omega, _, _, _, HA4.out, by decide⟩)
        have hr5 := blk_keep HR4.out hgS (by have := HSZ.out; simp; omega)
        have ha5 := set_at (i := 1) (cs' := #[.string (bs x.p), .slice Aa x.a.length ca]) (set_at (i := 0) (cs' := #[.string (bs x.p), .slice none 0 0]) HA4.out (.string (bs x.p)) rfl) (.slice Aa x.a.length ca) rfl
        have hta5 : TermsAt (w2.heap.size + 1) ((w4.setCell ⟨w2.heap.size, 0, none⟩ (.string (bs x.p))).setCell ⟨w2.heap.size, 1, none⟩ (.slice Aa x.a.length ca)) x.a (.slice Aa x.a.length ca) := (TermsAt.base HTA.out (by simp)).kept hgS (fun j hj => by cases hj; exact .inl (Nat.lt_succ_self _))
        have hB4 : Below w.heap.size w w4 := HB3.out.grown HG4.out (by have := HSZ.out; simp; omega) (fun j hj => by cases hj; have := HPG.out; omega)
        have hB5 : Below w.heap.size w ((w4.setCell ⟨w2.heap.size, 0, none⟩ (.string (bs x.p))).setCell ⟨w2.heap.size, 1, none⟩ (.slice Aa x.a.length ca)) := (hB4.setCell (by have := HSZ.out; show w.heap.size ≤ w2.heap.size; omega) _).setCell (by have := HSZ.out; show w.heap.size ≤ w2.heap.size; omega) _
        have HS5 := Lib.hid hS5
        have HR5 := Lib.hid hr5
        have HA5 := Lib.hid ha5
        have HT5 := Lib.hid hta5
        have HB5 := Lib.hid hB5
        have c0 := hS5.c0; have c1 := hS5.c1; have c3 := hS5.c3; have c4 := hS5.c4
        have z0 := cell_of_row _ _ 0 _ _ _ hr5; have z1 := cell_of_row _ _ 1 _ _ _ hr5
        have y0 := frozen_of_row _ _ 0 _ _ hr5; have y1 := frozen_of_row _ _ 1 _ _ hr5
        have a0 := cell_of_row _ _ 0 _ _ _ ha5; have a1 := cell_of_row _ _ 1 _ _ _ ha5
        have C4' := Lib.hid c4
        clear hgS hS5 hr5 ha5 hta5 hB4 hB5 k0 k1 l0 l1
        obtain ⟨⟨⟨k2, s2, n2, q2⟩, a2⟩, hp2⟩ : ∃ p, t0 = p := ⟨_, rfl⟩
        have HP2 := Lib.hid (show pk s.size (l.drop nx1) 0 = (⟨k2, s2, n2, q2⟩, a2) by rw [HR1.out, HR0N.out, hp2]; rfl)
        have HT0 := Lib.hid hp2
        clear hp2
        have hlt : nx1 < l.length := by have h1 := congrArg List.length HR1.out; rw [HR0N.out] at h1; simp at h1; omega
        have hd : decide ((nx1 : Int) < (l.length : Int)) = true := decide_eq_true (by omega)
        go_region
        clear c0 c1 c3 c4 z0 z1 y0 y1 a0 a1
        go_wp2_with (first
          | (go_at_call 16; ((with_reducible refine (peek0_calls ⟨k2, s2, n2, q2⟩ a2 _ (HS5.out.below (Below.refl _ _).drew) HP2.out).mono ?_); rintro e w6 ⟨rfl, hb6⟩; have HB6 := Lib.hid (HB5.out.drew.trans (Below.mono (hb6) HB5.out.size)); have HS6 := Lib.hid ((HS5.out.below (Below.refl _ _).drew).below hb6); have HR6 := Lib.hid (blk_keep HR5.out (un_drew (grown_below hb6 none)) (by simp)); clear hb6))
          | (go_at_call 15; ((with_reducible refine (fail_ok_calls _ (bs s2) n2 q2 a2 2 _ HS6.out).mono ?_); rintro e w7 ⟨rfl, hs7, hg7⟩; have HS7 := Lib.hid hs7; have HB7 := Lib.hid (HB6.out.grown hg7 (Nat.le_trans (Nat.le_refl _) HB6.out.size) (fun j hj => by cases hj; have := HPG.out; omega)); have hr7 := blk_keep HR6.out hg7 (by have := HPG.out; simp; omega); have HR7 := Lib.hid hr7; have d3 := HS7.out.c3; have d4 := HS7.out.c4; have D4 := Lib.hid d4; have x0 := cell_of_row w7 w.heap.size 0 _ _ _ HR7.out; have x1 := cell_of_row w7 w.heap.size 1 _ _ _ HR7.out; have x2 := frozen_of_row w7 w.heap.size 0 _ _ HR7.out; have x3 := frozen_of_row w7 w.heap.size 1 _ _ HR7.out; clear hs7 hg7 hr7))
          | (go_at_call 12; ((with_reducible refine (pokq false _ D4.out (show ((2 : Int) == 0) = false from rfl)).mono ?_); rintro e w' ⟨rfl, hw⟩; rw [hw]; clear hw)))
        go_region
        go_wp2_with fail
        have hset := set_at (i := 1) (cs' := #[.string ⟨#[]⟩, .slice none 0 0]) (set_at (i := 0) (cs' := #[.string ⟨#[]⟩, .slice none 0 0]) HR7.out (.string ⟨#[]⟩) rfl) (.slice none 0 0) rfl
        have q0 := cell_of_row _ _ 0 _ _ _ hset
        have q1 := cell_of_row _ _ 1 _ _ _ hset
        refine bodyPost_ret (v := .tuple #[.agg #[.string ⟨#[]⟩, .slice none 0 0], .int .i64 (a2 : Int), .int .i64 (2 : Int)]) (by simp [results, Tryd.results10, go_sem, q0, q1]) rfl ⟨((HB7.out.setCell (Nat.le_refl _) _).setCell (Nat.le_refl _) _).drew, ?_⟩
        rw [HF.out]
        rw [HT0.out]
        rfl
end Go.Proofs.YthhfjimhfehimaaDoor.V
