/- parse.Parse: a text's program. -/
import Derived.Test.YthhfjimhfehimaaDoorPars
import Derived.LoopN
namespace Go.Proofs.YthhfjimhfehimaaDoor.V
set_option linter.unusedVariables false
set_option linter.unusedSimpArgs false
open Go.RowKit

theorem RulesAt.base {B B' : Nat} {W : World} {l : List RuleL} {v : Value} (h : RulesAt B W l v) (hB : B' ≤ B) : RulesAt B' W l v := by
  obtain ⟨qs, h1, h2, h3⟩ := h
  exact ⟨qs, h1, o_base h2 hB, fun q hq => ⟨(h3 q hq).1.base hB, (h3 q hq).2.base hB⟩⟩
theorem pokq {P : Nat} {bad : Int} (v : Bool) (w : World) (h : w.cell? ⟨P, 4, none⟩ = some (.int .i64 bad)) (hv : (bad == 0) = v) :
    Calls Tryd.prog 12 #[.pointer (some ⟨P, 0, none⟩)] w fun e w' => e = .returned (.bool v) ∧ w' = w := by
  cases v
  all_goals
    go_enter Tryd.func12, Tryd.ntmps12
    go_wp2
    go_ret
    exact ⟨rfl, rfl⟩
theorem clauseM_few {N : Nat} {ds ds' : List DeclL} {rs rs' : List RuleL} {r r1 : List TP} (h : clauseM N ds rs r = .ok (ds', rs') r1) (hd : ds.length ≤ 400) (hr : rs.length ≤ 400) : ds'.length ≤ 400 ∧ rs'.length ≤ 400 ∧ r1.length < r.length := by
  unfold clauseM at h
  split at h
  · split at h
    · simp at h
    · rename_i h4
      cases hp : declP N r with
      | bad a e => rw [hp] at h; simp [Par.map] at h
      | ok d r2 =>
        rw [hp] at h
        simp only [Par.map, Par.ok.injEq, Prod.mk.injEq] at h
        have := declP_lt hp
        have h4' : ¬ ds.length = 400 := by simpa using h4
        rw [← h.1.1, ← h.1.2, ← h.2]
        simp
        omega
  · split at h
    · simp at h
    · rename_i h4
      cases hp : ruleP N r with
      | bad a e => rw [hp] at h; simp [Par.map] at h
      | ok d r2 =>
        rw [hp] at h
        simp only [Par.map, Par.ok.injEq, Prod.mk.injEq] at h
        have := ruleP_lt hp
        have h4' : ¬ rs.length = 400 := by simpa using h4
        rw [← h.1.1, ← h.1.2, ← h.2]
        simp
        omega
/-- How much there is to do. -/
def todo (P n : Nat) (w : World) : Nat := match w.cell? ⟨P, 4, none⟩ with
  | some (.int _ 0) => (match w.cell? ⟨P, 1, none⟩ with
    | some v => n + 1 - (intOf v).toNat
    | none => 0)
  | _ => 0
theorem todo_ok {P N nx : Nat} {L : List TP} {pl : Int} {A : Option Addr} {c : Nat} {w : World} (h : PS P L N nx pl 0 A c w) : todo P L.length w = L.length + 1 - nx := by
  unfold todo
  rw [h.c4, h.c1]
  simp [intOf]
theorem todo_bad {P N nx : Nat} {L : List TP} {pl bad : Int} {A : Option Addr} {c n : Nat} {w : World} (h : PS P L N nx pl bad A c w) (hb : bad ≠ 0) : todo P n w = 0 := by
  unfold todo
  rw [h.c4]
  split
  · rename_i e
    injection e with e
    injection e with _ e
    exact absurd e hb
  · rfl

/-- What Parse hands back. -/
def ParseIs (s : ByteArray) (w : World) (e : Ending) (w' : World) : Prop :=
  Below w.heap.size w w' ∧ match parseL s.data.toList with
    | .bad a n => e = .returned (.tuple #[.agg #[.slice none 0 0, .slice none 0 0], .int .i64 (a : Int), .int .i64 (n : Int)])
    | .ok g => ∃ vd vr, e = .returned (.tuple #[.agg #[vd, vr], .int .i64 0, .int .i64 0]) ∧ DeclsAt w.heap.size w' g.1 vd ∧ RulesAt w.heap.size w' g.2 vr ∧ g.1.length ≤ 400 ∧ g.2.length ≤ 400

set_option maxRecDepth 100000 in
set_option maxHeartbeats 16000000 in
theorem parse_calls (s : ByteArray) (w : World) (hs : s.size ≤ 9223372036854775807) (hE : ErrW w) :
    Calls Tryd.prog 7 #[.string s] w (ParseIs s w) := by
  have HE := Lib.hid (hE.below ((Below.refl w.heap.size w).alloc (Nat.le_refl _) (.cells #[.slice none 0 0, .slice none 0 0] 26)))
  have HR0 := Lib.hid (heap_alloc_new w (.cells #[.slice none 0 0, .slice none 0 0] 26))
  clear hE
  cases ho : scanL s.data.toList with
  | bad a n =>
    have HO := Lib.hid ho
    have HF := Lib.hid (show parseL s.data.toList = .bad a n by unfold parseL; rw [ho])
    clear ho
    go_enter Tryd.func7, Tryd.ntmps7
    go_wp2_with (go_at_call 11; ((with_reducible refine (parsing_calls s _ hs HE.out).mono ?_); rintro e w2 ⟨P, rfl, hP, hb, hsc⟩; rw [HO.out] at hsc; obtain ⟨hn, hp⟩ := hsc; have HN := Lib.hid hn; have hb3 := (Below.refl w2.heap.size w2).alloc (Nat.le_refl _) (.cells #[.slice none 0 0, .slice none 0 0] 26); have hp3 := (hb3.block P (Array.getElem?_eq_some_iff.1 hp).1).trans hp; have hr3 := (hb3.block w.heap.size (Nat.lt_of_lt_of_le (by simp) hb.size)).trans ((hb.block w.heap.size (by simp)).trans HR0.out); have c0 := cell_of_row _ P 0 _ _ _ hp3; have c1 := cell_of_row _ P 1 _ _ _ hp3; have c3 := cell_of_row _ P 3 _ _ _ hp3; have c4 := cell_of_row _ P 4 _ _ _ hp3; have z0 := cell_of_row _ w.heap.size 0 _ _ _ hr3; have z1 := cell_of_row _ w.heap.size 1 _ _ _ hr3; have y0 := frozen_of_row _ w.heap.size 0 _ _ hr3; have y1 := frozen_of_row _ w.heap.size 1 _ _ hr3; have HB := Lib.hid hb; have HPP := Lib.hid hp3; have HRR := Lib.hid hr3; clear hn hp hb hb3 hp3 hr3))
    have HBB := Lib.hid (show ((n : Int) == 0) = false by have := HN.out; simp; omega)
    have C4 := Lib.hid c4
    refine wp_loop_rounds 1 ?_
    rw [rounds_succ]
    go_wp2_with fail
    go_quiet (first | (go_at_call 12; refine Calls.quiet_of_same (pokq false _ (by exact C4.out) HBB.out)))
    generalize hW : World.drewN _ _ = W3
    have d1 : W3.cell? ⟨P, 3, none⟩ = some (.int .i64 (a : Int)) := by rw [← hW]; exact c3
    have d2 : W3.cell? ⟨P, 4, none⟩ = some (.int .i64 (n : Int)) := by rw [← hW]; exact c4
    have x0 : W3.cell? ⟨w.heap.size, 0, none⟩ = some (.slice none 0 0) := by rw [← hW]; exact z0
    have x1 : W3.cell? ⟨w.heap.size, 1, none⟩ = some (.slice none 0 0) := by rw [← hW]; exact z1
    have x2 : W3.frozen? ⟨w.heap.size, 0, none⟩ = false := by rw [← hW]; exact y0
    have x3 : W3.frozen? ⟨w.heap.size, 1, none⟩ = false := by rw [← hW]; exact y1
    have HRR3 := Lib.hid (show W3.heap[w.heap.size]? = some (.cells #[.slice none 0 0, .slice none 0 0] 26 (0, 0)) by rw [← hW]; exact HRR.out)
    have HB3 := Lib.hid (show Below w.heap.size w W3 by rw [← hW]; exact below_drewN' ((((Below.refl w.heap.size w).alloc (Nat.le_refl _) _).trans (HB.out.mono (by simp))).alloc (by have := HB.out.size; simp at this; omega) _) _)
    have D2 := Lib.hid d2
    clear hW c0 c1 c3 c4 z0 z1 y0 y1
    go_wp2_with (go_at_call 12; ((with_reducible refine (pokq false _ D2.out HBB.out).mono ?_); rintro e w' ⟨rfl, hw⟩; rw [hw]; clear hw))
    go_region
    go_wp2_with fail
    have hset := set_at (i := 1) (cs' := #[.slice none 0 0, .slice none 0 0]) (set_at (i := 0) (cs' := #[.slice none 0 0, .slice none 0 0]) HRR3.out (.slice none 0 0) rfl) (.slice none 0 0) rfl
    have q0 := cell_of_row _ _ 0 _ _ _ hset
    have q1 := cell_of_row _ _ 1 _ _ _ hset
    refine bodyPost_ret (v := .tuple #[.agg #[.slice none 0 0, .slice none 0 0], .int .i64 (a : Int), .int .i64 (n : Int)]) (by simp [results, Tryd.results7, go_sem, q0, q1]) rfl ⟨((HB3.out.setCell (Nat.le_refl _) _).setCell (Nat.le_refl _) _).drew, ?_⟩
    rw [HF.out]
  | ok l =>
    have HO := Lib.hid ho
    have HMAX := Lib.hid (scanL_max ho)
    have HF := Lib.hid (show parseL s.data.toList = match progT s.size [] [] l with | .bad a e => .bad a e | .ok g _ => .ok g by
      unfold parseL progT
      rw [ho]
      simp only [Array.length_toList, ByteArray.size_data]
      rfl)
    clear ho
    go_enter Tryd.func7, Tryd.ntmps7
    go_wp2_with (go_at_call 11; ((with_reducible refine (parsing_calls s _ hs HE.out).mono ?_); rintro e w2 ⟨P, rfl, hP, hb, hsc⟩; rw [HO.out] at hsc; obtain ⟨A, c, hp⟩ := hsc; have HPP := Lib.hid hP; have HB := Lib.hid hb; have HS2 := Lib.hid hp; clear hP hb hp))
    have hsz : w.heap.size + 1 ≤ w2.heap.size := by have := HB.out.size; simpa using this
    have hPlt := HS2.out.lt
    have hPge : w.heap.size + 1 ≤ P := by have := HPP.out; simpa using this
    have HSZ := Lib.hid hsz
    have HPL := Lib.hid hPlt
    have HPG := Lib.hid hPge
    clear hsz hPlt hPge
    go_loopw [] (fun wr => ∃ ds rs Ad Ar cd cr, GAt (w2.heap.size + 1) w2.heap.size wr ds rs Ad Ar cd cr ∧ Below P w2 wr ∧ w2.heap.size + 1 ≤ wr.heap.size ∧ ((ds.length ≤ 400 ∧ rs.length ≤ 400 ∧ ∃ r, PO P l s.size A c r wr ∧ progT s.size [] [] l = progT s.size ds rs r) ∨ (∃ a e, PB P l s.size A c a e 66000 wr ∧ progT s.size [] [] l = .bad a e))) (fun wr => todo P l.length wr)
    case atStart =>
      refine ⟨[], [], none, none, 0, 0, ⟨heap_alloc_new w2 _, World.ownsRow_nil _ _ _ _, [], rfl, World.ownsRow_nil _ _ _ _, fun q hq => by cases hq⟩, (Below.refl P w2).alloc (Nat.le_of_lt HPL.out) _, by simp, .inl ⟨Nat.zero_le _, Nat.zero_le _, l, ⟨0, Nat.zero_le _, rfl, HS2.out.below ((Below.refl _ _).alloc (Nat.le_refl _) _)⟩, rfl⟩⟩
    case round =>
      obtain ⟨ds, rs, Ad, Ar, cd, cr, hga, hbel, hsize, hst⟩ := hrel
      have HGA := Lib.hid hga
      have HBE := Lib.hid hbel
      have HSI := Lib.hid hsize
      have hr0 := (hbel.block w.heap.size (by have := HPG.out; omega)).trans ((HB.out.block w.heap.size (by simp)).trans HR0.out)
      have HRR := Lib.hid hr0
      clear hga hbel hsize hr0
      rcases hst with ⟨hd4, hr4, r, ⟨nx, hnx, rfl, hS⟩, heq⟩ | ⟨a, e, ⟨he0, nx, hnx, hS⟩, heq⟩
      · have HS := Lib.hid hS
        have HEQ := Lib.hid heq
        have HNX := Lib.hid hnx
        have HD4 := Lib.hid hd4
        have HR4 := Lib.hid hr4
        have c0 := hS.c0
        have c1 := hS.c1
        have c4 := hS.c4
        have C4 := Lib.hid c4
        clear hS heq hd4 hr4
        by_cases hlt : nx < l.length
        · have hd : decide ((nx : Int) < (l.length : Int)) = true := decide_eq_true (by omega)
          have HLT := Lib.hid hlt
          go_wp2_with fail
          go_quiet (first | (go_at_call 12; refine Calls.quiet_of_same (pokq true _ (by exact C4.out) rfl)))
          generalize hW : World.drewN _ _ = W3
          have HBW := Lib.hid (show Below wr.heap.size wr W3 by rw [← hW]; exact below_drewN' (Below.refl _ _) _)
          clear hW c0 c1 c4
          have hgw := HGA.out.kept (grown_below HBW.out (some P)) (by have := HPL.out; omega) (by have := HPL.out; omega)
          have HGW := Lib.hid hgw
          clear hgw
          go_wp2_with (go_at_call 13; ((with_reducible refine (clause_calls (B := P) (base := w2.heap.size + 1) (r := l.drop nx) _ (po_mk HNX.out (HS.out.below HBW.out)) HMAX.out HGW.out (by have := HPL.out; omega) (Nat.lt_succ_self _) (by have := HPL.out; omega) (Nat.le_trans HSI.out HBW.out.size) (Nat.le_refl _) (Nat.le_of_lt HPL.out) HD4.out HR4.out).mono ?_); rintro e w4 ⟨rfl, hb4, ds', rs', Ad', Ar', cd', cr', hga4, hgot⟩; have HB4 := Lib.hid hb4; have HGA4 := Lib.hid hga4; have HGOT := Lib.hid hgot; clear hb4 hga4 hgot))
          obtain ⟨x0, r0, hcons⟩ : ∃ x0 r0, l.drop nx = x0 :: r0 := by
            cases hd : l.drop nx with
            | nil => have := congrArg List.length hd; simp at this; omega
            | cons x0 r0 => exact ⟨x0, r0, rfl⟩
          have hstep := progT_step s.size ds rs x0 r0
          have hgot := HGOT.out
          rw [hcons] at hgot
          have heq := HEQ.out
          rw [hcons] at heq
          have hbel4 : Below P w2 w4 := (HBE.out.trans (HBW.out.mono (by have := HBE.out.size; have := HPL.out; omega))).trans HB4.out
          have hsize4 : w2.heap.size + 1 ≤ w4.heap.size := Nat.le_trans HSI.out (Nat.le_trans HBW.out.size HB4.out.size)
          have htodo := todo_ok HS.out
          cases hc : clauseM s.size ds rs (x0 :: r0) with
          | bad a e =>
            rw [hc] at hgot hstep
            go_roundw
            case rel => exact ⟨ds', rs', Ad', Ar', cd', cr', HGA4.out, hbel4, hsize4, .inr ⟨a, e, hgot, by rw [heq, hstep]⟩⟩
            case measure =>
              obtain ⟨he0, nx4, hnx4, hS4⟩ := hgot
              rw [todo_bad hS4 (by omega), htodo]
              have := HNX.out
              omega
          | ok g r1 =>
            rw [hc] at hgot hstep
            obtain ⟨hg, nx4, hnx4, hr4, hS4⟩ := hgot
            subst hg
            have hf := clauseM_few hc HD4.out HR4.out
            go_roundw
            case rel => exact ⟨ds', rs', Ad', Ar', cd', cr', HGA4.out, hbel4, hsize4, .inl ⟨hf.1, hf.2.1, r1, ⟨nx4, hnx4, hr4, hS4⟩, by rw [heq, hstep]⟩⟩
            case measure =>
              rw [todo_ok hS4, htodo]
              have h1 := hf.2.2
              rw [← hcons, ← hr4] at h1
              simp at h1
              omega
        · have hd : decide ((nx : Int) < (l.length : Int)) = false := decide_eq_false (by omega)
          have HQ := Lib.hid (show parseL s.data.toList = .ok (ds, rs) by
            rw [HF.out, HEQ.out, List.drop_eq_nil_of_le (by omega)]
            rfl)
          go_wp2_with fail
          go_quiet (first | (go_at_call 12; refine Calls.quiet_of_same (pokq true _ (by exact C4.out) rfl)))
          generalize hW : World.drewN _ _ = W3
          have HBW := Lib.hid (show Below wr.heap.size wr W3 by rw [← hW]; exact below_drewN' (Below.refl _ _) _)
          have D4 := Lib.hid (cell_below HBW.out C4.out)
          have hga3 := HGA.out.kept (grown_below HBW.out (some P)) (by have := HPL.out; omega) (by have := HPL.out; omega)
          have hrr3 := (HBW.out.block w.heap.size (Array.getElem?_eq_some_iff.1 HRR.out).1).trans HRR.out
          have g0 := cell_of_row _ _ 0 _ _ _ hga3.b; have g1 := cell_of_row _ _ 1 _ _ _ hga3.b
          have z0 := cell_of_row _ _ 0 _ _ _ hrr3; have z1 := cell_of_row _ _ 1 _ _ _ hrr3
          have y0 := frozen_of_row _ _ 0 _ _ hrr3; have y1 := frozen_of_row _ _ 1 _ _ hrr3
          have HGA3 := Lib.hid hga3
          have HRR3 := Lib.hid hrr3
          clear hW c0 c1 c4 hga3 hrr3
          go_wp2_with (go_at_call 12; ((with_reducible refine (pokq true _ D4.out rfl).mono ?_); rintro e w' ⟨rfl, hw⟩; rw [hw]; clear hw))
          have hset := set_at (i := 1) (cs' := #[.slice Ad ds.length cd, .slice Ar rs.length cr]) (set_at (i := 0) (cs' := #[.slice Ad ds.length cd, .slice none 0 0]) HRR3.out (.slice Ad ds.length cd) rfl) (.slice Ar rs.length cr) rfl
          have q0 := cell_of_row _ _ 0 _ _ _ hset
          have q1 := cell_of_row _ _ 1 _ _ _ hset
          have hgS := grown_set (grown_set (World.grownBy.refl W3 (some w.heap.size)) 0 (.slice Ad ds.length cd)) 1 (.slice Ar rs.length cr)
          have hB3 : Below w.heap.size w W3 := (((Below.refl w.heap.size w).alloc (Nat.le_refl _) (.cells #[.slice none 0 0, .slice none 0 0] 26)).trans (HB.out.mono (by simp))).trans ((HBE.out.mono (by have := HPG.out; omega)).trans (HBW.out.mono (by have := HSI.out; have := HSZ.out; omega)))
          refine bodyPost_ret (v := .tuple #[.agg #[.slice Ad ds.length cd, .slice Ar rs.length cr], .int .i64 0, .int .i64 0]) (by simp [results, Tryd.results7, go_sem, q0, q1]) rfl ⟨(hB3.setCell (Nat.le_refl _) _).setCell (Nat.le_refl _) _, ?_⟩
          rw [HQ.out]
          have hlow : ∀ j, some w.heap.size = some j → j < w2.heap.size + 1 := fun j hj => by cases hj; have := HSZ.out; omega
          refine ⟨_, _, rfl, ?_, ?_, HD4.out, HR4.out⟩
          · exact o_base (HGA3.out.d.kept hgS (fun j hj => .inl (hlow j hj))) (by have := HSZ.out; omega)
          · exact (HGA3.out.r.kept hgS (fun j hj => .inl (hlow j hj))).base (by have := HSZ.out; omega)
      · have HS := Lib.hid hS
        have HBB := Lib.hid (show ((e : Int) == 0) = false by simp; omega)
        have HQ := Lib.hid (show parseL s.data.toList = .bad a e by rw [HF.out, heq])
        have c3 := hS.c3
        have c4 := hS.c4
        have C3 := Lib.hid c3
        have C4 := Lib.hid c4
        clear hS heq
        go_wp2_with fail
        go_quiet (first | (go_at_call 12; refine Calls.quiet_of_same (pokq false _ (by exact C4.out) HBB.out)))
        generalize hW : World.drewN _ _ = W3
        have HBW := Lib.hid (show Below wr.heap.size wr W3 by rw [← hW]; exact below_drewN' (Below.refl _ _) _)
        have d3 := cell_below HBW.out C3.out
        have d4 := cell_below HBW.out C4.out
        have D4 := Lib.hid d4
        have hrr3 := (HBW.out.block w.heap.size (Array.getElem?_eq_some_iff.1 HRR.out).1).trans HRR.out
        have z0 := cell_of_row _ _ 0 _ _ _ hrr3; have z1 := cell_of_row _ _ 1 _ _ _ hrr3
        have y0 := frozen_of_row _ _ 0 _ _ hrr3; have y1 := frozen_of_row _ _ 1 _ _ hrr3
        have HRR3 := Lib.hid hrr3
        clear hW c3 c4 hrr3
        go_wp2_with (go_at_call 12; ((with_reducible refine (pokq false _ D4.out HBB.out).mono ?_); rintro e w' ⟨rfl, hw⟩; rw [hw]; clear hw))
        go_region
        go_wp2_with fail
        have hset := set_at (i := 1) (cs' := #[.slice none 0 0, .slice none 0 0]) (set_at (i := 0) (cs' := #[.slice none 0 0, .slice none 0 0]) HRR3.out (.slice none 0 0) rfl) (.slice none 0 0) rfl
        have q0 := cell_of_row _ _ 0 _ _ _ hset
        have q1 := cell_of_row _ _ 1 _ _ _ hset
        have hB3 : Below w.heap.size w W3 := (((Below.refl w.heap.size w).alloc (Nat.le_refl _) (.cells #[.slice none 0 0, .slice none 0 0] 26)).trans (HB.out.mono (by simp))).trans ((HBE.out.mono (by have := HPG.out; omega)).trans (HBW.out.mono (by have := HSI.out; have := HSZ.out; omega)))
        refine bodyPost_ret (v := .tuple #[.agg #[.slice none 0 0, .slice none 0 0], .int .i64 (a : Int), .int .i64 (e : Int)]) (by simp [results, Tryd.results7, go_sem, q0, q1]) rfl ⟨((hB3.setCell (Nat.le_refl _) _).setCell (Nat.le_refl _) _).drew, ?_⟩
        rw [HQ.out]
end Go.Proofs.YthhfjimhfehimaaDoor.V
