/- parse.Parse: a text's program. parse.Atom: a text's atom. The document's Atom: a text's atom. The document's SameAtom of two atoms that are the same. lambrequinlaw06.shown: the document's example. lambrequinlaw06.ParseAtoms: any text's atom, or where it may not be, is the document's. -/
import Derived.LoopN
import Derived.BigQuiet
import Derived.Deep.QuietTactic
import Derived.KernelRfl
import Derived.Test.YtminbdcabacfbaaGreatDoorKAtoms11
namespace Go.Proofs.YtminbdcabacfbaaGreatDoor.V
set_option linter.unusedVariables false
set_option linter.unusedSimpArgs false
open Go.RowKit

theorem RulesAt.base {B B' : Nat} {W : World} {l : List RuleL} {v : Value} (h : RulesAt B W l v) (hB : B' ≤ B) : RulesAt B' W l v := by
  obtain ⟨qs, h1, h2, h3⟩ := h
  exact ⟨qs, h1, o_base h2 hB, fun q hq => ⟨(h3 q hq).1.base hB, (h3 q hq).2.base hB⟩⟩
theorem pokq {P : Nat} {bad : Int} (v : Bool) (w : World) (h : w.cell? ⟨P, 4, none⟩ = some (.int .i64 bad)) (hv : (bad == 0) = v) :
    Calls Tryz.prog 33 #[.pointer (some ⟨P, 0, none⟩)] w fun e w' => e = .returned (.bool v) ∧ w' = w := by
  cases v
  all_goals
    go_enter Tryz.func33, Tryz.ntmps33
    go_wp2
    go_ret
    exact ⟨rfl, rfl⟩
theorem clauseM_few {N : Nat} {ds ds' : List DeclL} {rs rs' : List RuleL} {r r1 : List TP} (h : clauseM N ds rs r = .ok (ds', rs') r1) (hd : ds.length ≤ 400) (hr : rs.length ≤ 400) : ds'.length ≤ 400 ∧ rs'.length ≤ 400 ∧ r1.length < r.length := by
  unfold clauseM at h
  split at h
  · split at h
    · simp at h
    · rename_i h4
      cases hp : declP N r with
      | bad a e => rw [hp] at h; simp [Par.map] at h
      | ok d r2 =>
        rw [hp] at h
        simp only [Par.map, Par.ok.injEq, Prod.mk.injEq] at h
        have := declP_lt hp
        have h4' : ¬ ds.length = 400 := by simpa using h4
        rw [← h.1.1, ← h.1.2, ← h.2]
        simp
        omega
  · split at h
    · simp at h
    · rename_i h4
      cases hp : ruleP N r with
      | bad a e => rw [hp] at h; simp [Par.map] at h
      | ok d r2 =>
        rw [hp] at h
        simp only [Par.map, Par.ok.injEq, Prod.mk.injEq] at h
        have := ruleP_lt hp
        have h4' : ¬ rs.length = 400 := by simpa using h4
        rw [← h.1.1, ← h.1.2, ← h.2]
        simp
        omega
/-- How much there is to do. -/
def todo (P n : Nat) (w : World) : Nat := match w.cell? ⟨P, 4, none⟩ with
  | some (.int _ 0) => (match w.cell? ⟨P, 1, none⟩ with
    | some v => n + 1 - (intOf v).toNat
    | none => 0)
  | _ => 0
theorem todo_ok {P N nx : Nat} {L : List TP} {pl : Int} {A : Option Addr} {c : Nat} {w : World} (h : PS P L N nx pl 0 A c w) : todo P L.length w = L.length + 1 - nx := by
  unfold todo
  rw [h.c4, h.c1]
  simp [intOf]
theorem todo_bad {P N nx : Nat} {L : List TP} {pl bad : Int} {A : Option Addr} {c n : Nat} {w : World} (h : PS P L N nx pl bad A c w) (hb : bad ≠ 0) : todo P n w = 0 := by
  unfold todo
  rw [h.c4]
  split
  · rename_i e
    injection e with e
    injection e with _ e
    exact absurd e hb
  · rfl

/-- What Parse hands back. -/
def ParseIs (s : ByteArray) (w : World) (e : Ending) (w' : World) : Prop :=
  Below w.heap.size w w' ∧ match parseL s.data.toList with
    | .bad a n => e = .returned (.tuple #[.agg #[.slice none 0 0, .slice none 0 0], .int .i64 (a : Int), .int .i64 (n : Int)])
    | .ok g => ∃ vd vr, e = .returned (.tuple #[.agg #[vd, vr], .int .i64 0, .int .i64 0]) ∧ DeclsAt w.heap.size w' g.1 vd ∧ RulesAt w.heap.size w' g.2 vr ∧ g.1.length ≤ 400 ∧ g.2.length ≤ 400

set_option maxRecDepth 100000 in
set_option maxHeartbeats 16000000 in
theorem parse_calls (s : ByteArray) (w : World) (hs : s.size ≤ 9223372036854775807) (hE : ErrW w) :
    Calls Tryz.prog 20 #[.string s] w (ParseIs s w) := by
  have HE := Lib.hid (hE.below ((Below.refl w.heap.size w).alloc (Nat.le_refl _) (.cells #[.slice none 0 0, .slice none 0 0] 36)))
  have HR0 := Lib.hid (heap_alloc_new w (.cells #[.slice none 0 0, .slice none 0 0] 36))
  clear hE
  cases ho : scanL s.data.toList with
  | bad a n =>
    have HO := Lib.hid ho
    have HF := Lib.hid (show parseL s.data.toList = .bad a n by unfold parseL; rw [ho])
    clear ho
    go_enter Tryz.func20, Tryz.ntmps20
    go_wp2_with (go_at_call 32; ((with_reducible refine (parsing_calls s _ hs HE.out).mono ?_); rintro e w2 ⟨P, rfl, hP, hb, hsc⟩; rw [HO.out] at hsc; obtain ⟨hn, hp⟩ := hsc; have HN := Lib.hid hn; have hb3 := (Below.refl w2.heap.size w2).alloc (Nat.le_refl _) (.cells #[.slice none 0 0, .slice none 0 0] 36); have hp3 := (hb3.block P (Array.getElem?_eq_some_iff.1 hp).1).trans hp; have hr3 := (hb3.block w.heap.size (Nat.lt_of_lt_of_le (by simp) hb.size)).trans ((hb.block w.heap.size (by simp)).trans HR0.out); have c0 := cell_of_row _ P 0 _ _ _ hp3; have c1 := cell_of_row _ P 1 _ _ _ hp3; have c3 := cell_of_row _ P 3 _ _ _ hp3; have c4 := cell_of_row _ P 4 _ _ _ hp3; have z0 := cell_of_row _ w.heap.size 0 _ _ _ hr3; have z1 := cell_of_row _ w.heap.size 1 _ _ _ hr3; have y0 := frozen_of_row _ w.heap.size 0 _ _ hr3; have y1 := frozen_of_row _ w.heap.size 1 _ _ hr3; have HB := Lib.hid hb; have HPP := Lib.hid hp3; have HRR := Lib.hid hr3; clear hn hp hb hb3 hp3 hr3))
    have HBB := Lib.hid (show ((n : Int) == 0) = false by have := HN.out; simp; omega)
    have C4 := Lib.hid c4
    refine wp_loop_rounds 1 ?_
    rw [rounds_succ]
    go_wp2_with fail
    go_quiet (first | (go_at_call 33; refine Calls.quiet_of_same (pokq false _ (by exact C4.out) HBB.out)))
    generalize hW : World.drewN _ _ = W3
    have d1 : W3.cell? ⟨P, 3, none⟩ = some (.int .i64 (a : Int)) := by rw [← hW]; exact c3
    have d2 : W3.cell? ⟨P, 4, none⟩ = some (.int .i64 (n : Int)) := by rw [← hW]; exact c4
    have x0 : W3.cell? ⟨w.heap.size, 0, none⟩ = some (.slice none 0 0) := by rw [← hW]; exact z0
    have x1 : W3.cell? ⟨w.heap.size, 1, none⟩ = some (.slice none 0 0) := by rw [← hW]; exact z1
    have x2 : W3.frozen? ⟨w.heap.size, 0, none⟩ = false := by rw [← hW]; exact y0
    have x3 : W3.frozen? ⟨w.heap.size, 1, none⟩ = false := by rw [← hW]; exact y1
    have HRR3 := Lib.hid (show W3.heap[w.heap.size]? = some (.cells #[.slice none 0 0, .slice none 0 0] 36 (0, 0)) by rw [← hW]; exact HRR.out)
    have HB3 := Lib.hid (show Below w.heap.size w W3 by rw [← hW]; exact below_drewN' ((((Below.refl w.heap.size w).alloc (Nat.le_refl _) _).trans (HB.out.mono (by simp))).alloc (by have := HB.out.size; simp at this; omega) _) _)
    have D2 := Lib.hid d2
    clear hW c0 c1 c3 c4 z0 z1 y0 y1
    go_wp2_with (go_at_call 33; ((with_reducible refine (pokq false _ D2.out HBB.out).mono ?_); rintro e w' ⟨rfl, hw⟩; rw [hw]; clear hw))
    go_region
    go_wp2_with fail
    have hset := set_at (i := 1) (cs' := #[.slice none 0 0, .slice none 0 0]) (set_at (i := 0) (cs' := #[.slice none 0 0, .slice none 0 0]) HRR3.out (.slice none 0 0) rfl) (.slice none 0 0) rfl
    have q0 := cell_of_row _ _ 0 _ _ _ hset
    have q1 := cell_of_row _ _ 1 _ _ _ hset
    refine bodyPost_ret (v := .tuple #[.agg #[.slice none 0 0, .slice none 0 0], .int .i64 (a : Int), .int .i64 (n : Int)]) (by simp [results, Tryz.results20, go_sem, q0, q1]) rfl ⟨((HB3.out.setCell (Nat.le_refl _) _).setCell (Nat.le_refl _) _).drew, ?_⟩
    rw [HF.out]
  | ok l =>
    have HO := Lib.hid ho
    have HMAX := Lib.hid (scanL_max ho)
    have HF := Lib.hid (show parseL s.data.toList = match progT s.size [] [] l with | .bad a e => .bad a e | .ok g _ => .ok g by
      unfold parseL progT
      rw [ho]
      simp only [Array.length_toList, ByteArray.size_data]
      rfl)
    clear ho
    go_enter Tryz.func20, Tryz.ntmps20
    go_wp2_with (go_at_call 32; ((with_reducible refine (parsing_calls s _ hs HE.out).mono ?_); rintro e w2 ⟨P, rfl, hP, hb, hsc⟩; rw [HO.out] at hsc; obtain ⟨A, c, hp⟩ := hsc; have HPP := Lib.hid hP; have HB := Lib.hid hb; have HS2 := Lib.hid hp; clear hP hb hp))
    have hsz : w.heap.size + 1 ≤ w2.heap.size := by have := HB.out.size; simpa using this
    have hPlt := HS2.out.lt
    have hPge : w.heap.size + 1 ≤ P := by have := HPP.out; simpa using this
    have HSZ := Lib.hid hsz
    have HPL := Lib.hid hPlt
    have HPG := Lib.hid hPge
    clear hsz hPlt hPge
    go_loopw [] (fun wr => ∃ ds rs Ad Ar cd cr, GAt (w2.heap.size + 1) w2.heap.size wr ds rs Ad Ar cd cr ∧ Below P w2 wr ∧ w2.heap.size + 1 ≤ wr.heap.size ∧ ((ds.length ≤ 400 ∧ rs.length ≤ 400 ∧ ∃ r, PO P l s.size A c r wr ∧ progT s.size [] [] l = progT s.size ds rs r) ∨ (∃ a e, PB P l s.size A c a e 66000 wr ∧ progT s.size [] [] l = .bad a e))) (fun wr => todo P l.length wr)
    case atStart =>
      refine ⟨[], [], none, none, 0, 0, ⟨heap_alloc_new w2 _, World.ownsRow_nil _ _ _ _, [], rfl, World.ownsRow_nil _ _ _ _, fun q hq => by cases hq⟩, (Below.refl P w2).alloc (Nat.le_of_lt HPL.out) _, by simp, .inl ⟨Nat.zero_le _, Nat.zero_le _, l, ⟨0, Nat.zero_le _, rfl, HS2.out.below ((Below.refl _ _).alloc (Nat.le_refl _) _)⟩, rfl⟩⟩
    case round =>
      obtain ⟨ds, rs, Ad, Ar, cd, cr, hga, hbel, hsize, hst⟩ := hrel
      have HGA := Lib.hid hga
      have HBE := Lib.hid hbel
      have HSI := Lib.hid hsize
      have hr0 := (hbel.block w.heap.size (by have := HPG.out; omega)).trans ((HB.out.block w.heap.size (by simp)).trans HR0.out)
      have HRR := Lib.hid hr0
      clear hga hbel hsize hr0
      rcases hst with ⟨hd4, hr4, r, ⟨nx, hnx, rfl, hS⟩, heq⟩ | ⟨a, e, ⟨he0, nx, hnx, hS⟩, heq⟩
      · have HS := Lib.hid hS
        have HEQ := Lib.hid heq
        have HNX := Lib.hid hnx
        have HD4 := Lib.hid hd4
        have HR4 := Lib.hid hr4
        have c0 := hS.c0
        have c1 := hS.c1
        have c4 := hS.c4
        have C4 := Lib.hid c4
        clear hS heq hd4 hr4
        by_cases hlt : nx < l.length
        · have hd : decide ((nx : Int) < (l.length : Int)) = true := decide_eq_true (by omega)
          have HLT := Lib.hid hlt
          go_wp2_with fail
          go_quiet (first | (go_at_call 33; refine Calls.quiet_of_same (pokq true _ (by exact C4.out) rfl)))
          generalize hW : World.drewN _ _ = W3
          have HBW := Lib.hid (show Below wr.heap.size wr W3 by rw [← hW]; exact below_drewN' (Below.refl _ _) _)
          clear hW c0 c1 c4
          have hgw := HGA.out.kept (grown_below HBW.out (some P)) (by have := HPL.out; omega) (by have := HPL.out; omega)
          have HGW := Lib.hid hgw
          clear hgw
          go_wp2_with (go_at_call 52; ((with_reducible refine (clause_calls (B := P) (base := w2.heap.size + 1) (r := l.drop nx) _ (po_mk HNX.out (HS.out.below HBW.out)) HMAX.out HGW.out (by have := HPL.out; omega) (Nat.lt_succ_self _) (by have := HPL.out; omega) (Nat.le_trans HSI.out HBW.out.size) (Nat.le_refl _) (Nat.le_of_lt HPL.out) HD4.out HR4.out).mono ?_); rintro e w4 ⟨rfl, hb4, ds', rs', Ad', Ar', cd', cr', hga4, hgot⟩; have HB4 := Lib.hid hb4; have HGA4 := Lib.hid hga4; have HGOT := Lib.hid hgot; clear hb4 hga4 hgot))
          obtain ⟨x0, r0, hcons⟩ : ∃ x0 r0, l.drop nx = x0 :: r0 := by
            cases hd : l.drop nx with
            | nil => have := congrArg List.length hd; simp at this; omega
            | cons x0 r0 => exact ⟨x0, r0, rfl⟩
          have hstep := progT_step s.size ds rs x0 r0
          have hgot := HGOT.out
          rw [hcons] at hgot
          have heq := HEQ.out
          rw [hcons] at heq
          have hbel4 : Below P w2 w4 := (HBE.out.trans (HBW.out.mono (by have := HBE.out.size; have := HPL.out; omega))).trans HB4.out
          have hsize4 : w2.heap.size + 1 ≤ w4.heap.size := Nat.le_trans HSI.out (Nat.le_trans HBW.out.size HB4.out.size)
          have htodo := todo_ok HS.out
          cases hc : clauseM s.size ds rs (x0 :: r0) with
          | bad a e =>
            rw [hc] at hgot hstep
            go_roundw
            case rel => exact ⟨ds', rs', Ad', Ar', cd', cr', HGA4.out, hbel4, hsize4, .inr ⟨a, e, hgot, by rw [heq, hstep]⟩⟩
            case measure =>
              obtain ⟨he0, nx4, hnx4, hS4⟩ := hgot
              rw [todo_bad hS4 (by omega), htodo]
              have := HNX.out
              omega
          | ok g r1 =>
            rw [hc] at hgot hstep
            obtain ⟨hg, nx4, hnx4, hr4, hS4⟩ := hgot
            subst hg
            have hf := clauseM_few hc HD4.out HR4.out
            go_roundw
            case rel => exact ⟨ds', rs', Ad', Ar', cd', cr', HGA4.out, hbel4, hsize4, .inl ⟨hf.1, hf.2.1, r1, ⟨nx4, hnx4, hr4, hS4⟩, by rw [heq, hstep]⟩⟩
            case measure =>
              rw [todo_ok hS4, htodo]
              have h1 := hf.2.2
              rw [← hcons, ← hr4] at h1
              simp at h1
              omega
        · have hd : decide ((nx : Int) < (l.length : Int)) = false := decide_eq_false (by omega)
          have HQ := Lib.hid (show parseL s.data.toList = .ok (ds, rs) by
            rw [HF.out, HEQ.out, List.drop_eq_nil_of_le (by omega)]
            rfl)
          go_wp2_with fail
          go_quiet (first | (go_at_call 33; refine Calls.quiet_of_same (pokq true _ (by exact C4.out) rfl)))
          generalize hW : World.drewN _ _ = W3
          have HBW := Lib.hid (show Below wr.heap.size wr W3 by rw [← hW]; exact below_drewN' (Below.refl _ _) _)
          have D4 := Lib.hid (cell_below HBW.out C4.out)
          have hga3 := HGA.out.kept (grown_below HBW.out (some P)) (by have := HPL.out; omega) (by have := HPL.out; omega)
          have hrr3 := (HBW.out.block w.heap.size (Array.getElem?_eq_some_iff.1 HRR.out).1).trans HRR.out
          have g0 := cell_of_row _ _ 0 _ _ _ hga3.b; have g1 := cell_of_row _ _ 1 _ _ _ hga3.b
          have z0 := cell_of_row _ _ 0 _ _ _ hrr3; have z1 := cell_of_row _ _ 1 _ _ _ hrr3
          have y0 := frozen_of_row _ _ 0 _ _ hrr3; have y1 := frozen_of_row _ _ 1 _ _ hrr3
          have HGA3 := Lib.hid hga3
          have HRR3 := Lib.hid hrr3
          clear hW c0 c1 c4 hga3 hrr3
          go_wp2_with (go_at_call 33; ((with_reducible refine (pokq true _ D4.out rfl).mono ?_); rintro e w' ⟨rfl, hw⟩; rw [hw]; clear hw))
          have hset := set_at (i := 1) (cs' := #[.slice Ad ds.length cd, .slice Ar rs.length cr]) (set_at (i := 0) (cs' := #[.slice Ad ds.length cd, .slice none 0 0]) HRR3.out (.slice Ad ds.length cd) rfl) (.slice Ar rs.length cr) rfl
          have q0 := cell_of_row _ _ 0 _ _ _ hset
          have q1 := cell_of_row _ _ 1 _ _ _ hset
          have hgS := grown_set (grown_set (World.grownBy.refl W3 (some w.heap.size)) 0 (.slice Ad ds.length cd)) 1 (.slice Ar rs.length cr)
          have hB3 : Below w.heap.size w W3 := (((Below.refl w.heap.size w).alloc (Nat.le_refl _) (.cells #[.slice none 0 0, .slice none 0 0] 36)).trans (HB.out.mono (by simp))).trans ((HBE.out.mono (by have := HPG.out; omega)).trans (HBW.out.mono (by have := HSI.out; have := HSZ.out; omega)))
          refine bodyPost_ret (v := .tuple #[.agg #[.slice Ad ds.length cd, .slice Ar rs.length cr], .int .i64 0, .int .i64 0]) (by simp [results, Tryz.results20, go_sem, q0, q1]) rfl ⟨(hB3.setCell (Nat.le_refl _) _).setCell (Nat.le_refl _) _, ?_⟩
          rw [HQ.out]
          have hlow : ∀ j, some w.heap.size = some j → j < w2.heap.size + 1 := fun j hj => by cases hj; have := HSZ.out; omega
          refine ⟨_, _, rfl, ?_, ?_, HD4.out, HR4.out⟩
          · exact o_base (HGA3.out.d.kept hgS (fun j hj => .inl (hlow j hj))) (by have := HSZ.out; omega)
          · exact (HGA3.out.r.kept hgS (fun j hj => .inl (hlow j hj))).base (by have := HSZ.out; omega)
      · have HS := Lib.hid hS
        have HBB := Lib.hid (show ((e : Int) == 0) = false by simp; omega)
        have HQ := Lib.hid (show parseL s.data.toList = .bad a e by rw [HF.out, heq])
        have c3 := hS.c3
        have c4 := hS.c4
        have C3 := Lib.hid c3
        have C4 := Lib.hid c4
        clear hS heq
        go_wp2_with fail
        go_quiet (first | (go_at_call 33; refine Calls.quiet_of_same (pokq false _ (by exact C4.out) HBB.out)))
        generalize hW : World.drewN _ _ = W3
        have HBW := Lib.hid (show Below wr.heap.size wr W3 by rw [← hW]; exact below_drewN' (Below.refl _ _) _)
        have d3 := cell_below HBW.out C3.out
        have d4 := cell_below HBW.out C4.out
        have D4 := Lib.hid d4
        have hrr3 := (HBW.out.block w.heap.size (Array.getElem?_eq_some_iff.1 HRR.out).1).trans HRR.out
        have z0 := cell_of_row _ _ 0 _ _ _ hrr3; have z1 := cell_of_row _ _ 1 _ _ _ hrr3
        have y0 := frozen_of_row _ _ 0 _ _ hrr3; have y1 := frozen_of_row _ _ 1 _ _ hrr3
        have HRR3 := Lib.hid hrr3
        clear hW c3 c4 hrr3
        go_wp2_with (go_at_call 33; ((with_reducible refine (pokq false _ D4.out HBB.out).mono ?_); rintro e w' ⟨rfl, hw⟩; rw [hw]; clear hw))
        go_region
        go_wp2_with fail
        have hset := set_at (i := 1) (cs' := #[.slice none 0 0, .slice none 0 0]) (set_at (i := 0) (cs' := #[.slice none 0 0, .slice none 0 0]) HRR3.out (.slice none 0 0) rfl) (.slice none 0 0) rfl
        have q0 := cell_of_row _ _ 0 _ _ _ hset
        have q1 := cell_of_row _ _ 1 _ _ _ hset
        have hB3 : Below w.heap.size w W3 := (((Below.refl w.heap.size w).alloc (Nat.le_refl _) (.cells #[.slice none 0 0, .slice none 0 0] 36)).trans (HB.out.mono (by simp))).trans ((HBE.out.mono (by have := HPG.out; omega)).trans (HBW.out.mono (by have := HSI.out; have := HSZ.out; omega)))
        refine bodyPost_ret (v := .tuple #[.agg #[.slice none 0 0, .slice none 0 0], .int .i64 (a : Int), .int .i64 (e : Int)]) (by simp [results, Tryz.results20, go_sem, q0, q1]) rfl ⟨((hB3.setCell (Nat.le_refl _) _).setCell (Nat.le_refl _) _).drew, ?_⟩
        rw [HQ.out]
end Go.Proofs.YtminbdcabacfbaaGreatDoor.V

namespace Go.Proofs.YtminbdcabacfbaaGreatDoor.V
set_option linter.unusedVariables false
set_option linter.unusedSimpArgs false
open Go.RowKit

/-- What Atom hands back. -/
def PAtomIs (s : ByteArray) (w : World) (e : Ending) (w' : World) : Prop :=
  Below w.heap.size w w' ∧ match atomL s.data.toList with
    | .bad a n => e = .returned (.tuple #[.agg #[.string ⟨#[]⟩, .slice none 0 0], .int .i64 (a : Int), .int .i64 (n : Int)])
    | .ok x => ∃ v, e = .returned (.tuple #[.agg #[.string (bs x.p), v], .int .i64 0, .int .i64 0]) ∧ TermsAt w.heap.size w' x.a v

set_option maxRecDepth 100000 in
set_option maxHeartbeats 16000000 in
theorem patom_calls (s : ByteArray) (w : World) (hs : s.size ≤ 9223372036854775807) (hE : ErrW w) :
    Calls Tryz.prog 11 #[.string s] w (PAtomIs s w) := by
  have HE := Lib.hid (hE.below ((Below.refl w.heap.size w).alloc (Nat.le_refl _) (.cells #[.string ⟨#[]⟩, .slice none 0 0] 25)))
  have HR0 := Lib.hid (heap_alloc_new w (.cells #[.string ⟨#[]⟩, .slice none 0 0] 25))
  clear hE
  cases ho : scanL s.data.toList with
  | bad a n =>
    have HO := Lib.hid ho
    have HF := Lib.hid (show atomL s.data.toList = .bad a n by unfold atomL; rw [ho])
    have HBB := Lib.hid (show ((n : Int) == 0) = false by have := scan_bad ho; simp; omega)
    clear ho
    go_enter Tryz.func11, Tryz.ntmps11
    go_wp2_with (first
      | (go_at_call 32; ((with_reducible refine (parsing_calls s _ hs HE.out).mono ?_); rintro e w2 ⟨P, rfl, hP, hb, hsc⟩; rw [HO.out] at hsc; obtain ⟨hn, hp⟩ := hsc; have hb3 := (Below.refl w2.heap.size w2).alloc (Nat.le_refl _) (.cells #[.string ⟨#[]⟩, .slice none 0 0] 25); have hp3 := (hb3.block P (Array.getElem?_eq_some_iff.1 hp).1).trans hp; have hr3 := (hb3.block w.heap.size (Nat.lt_of_lt_of_le (by simp) hb.size)).trans ((hb.block w.heap.size (by simp)).trans HR0.out); have c0 := cell_of_row _ P 0 _ _ _ hp3; have c1 := cell_of_row _ P 1 _ _ _ hp3; have c3 := cell_of_row _ P 3 _ _ _ hp3; have c4 := cell_of_row _ P 4 _ _ _ hp3; have C4 := Lib.hid c4; have z0 := cell_of_row _ w.heap.size 0 _ _ _ hr3; have z1 := cell_of_row _ w.heap.size 1 _ _ _ hr3; have y0 := frozen_of_row _ w.heap.size 0 _ _ hr3; have y1 := frozen_of_row _ w.heap.size 1 _ _ hr3; have HB := Lib.hid hb; have HRR := Lib.hid hr3; clear hn hp hb hb3 hp3 hr3))
      | (go_at_call 33; ((with_reducible refine (pokq false _ ?_ HBB.out).mono ?_); (focus (exact C4.out)); rintro e w' ⟨rfl, hw⟩; rw [hw]; clear hw)))
    go_region
    go_wp2_with (first
      | (go_at_call 33; ((with_reducible refine (pokq false _ ?_ HBB.out).mono ?_); (focus (exact C4.out)); rintro e w' ⟨rfl, hw⟩; rw [hw]; clear hw)))
    go_region
    go_wp2_with fail
    -- THE END
    have hB2 : Below w.heap.size w (w2.alloc (.cells #[.string ⟨#[]⟩, .slice none 0 0] 25)) := ((((Below.refl w.heap.size w).alloc (Nat.le_refl _) (.cells #[.string ⟨#[]⟩, .slice none 0 0] 25)).trans (HB.out.mono (by simp))).alloc (by have := HB.out.size; simp at this; omega) _)
    have hset := set_at (i := 1) (cs' := #[.string ⟨#[]⟩, .slice none 0 0]) (set_at (i := 0) (cs' := #[.string ⟨#[]⟩, .slice none 0 0]) HRR.out (.string ⟨#[]⟩) rfl) (.slice none 0 0) rfl
    have q0 := cell_of_row _ _ 0 _ _ _ hset
    have q1 := cell_of_row _ _ 1 _ _ _ hset
    refine bodyPost_ret (v := .tuple #[.agg #[.string ⟨#[]⟩, .slice none 0 0], .int .i64 (a : Int), .int .i64 (n : Int)]) (by simp [results, Tryz.results11, go_sem, q0, q1]) rfl ⟨((hB2.setCell (Nat.le_refl _) _).setCell (Nat.le_refl _) _).drew.drew, ?_⟩
    rw [HF.out]
  | ok l =>
    have HO := Lib.hid ho
    have HMAX := Lib.hid (scanL_max ho)
    have HF0 := Lib.hid (show atomL s.data.toList = match atomP s.size l with | .bad a e => .bad a e | .ok x [] => .ok x | .ok x (t :: _) => .bad t.2 2 by
      unfold atomL
      rw [ho]
      simp only [Array.length_toList, ByteArray.size_data]
      rfl)
    clear ho
    cases ha : atomP s.size l with
    | bad a n =>
      have HAT := Lib.hid ha
      have HF := Lib.hid (show atomL s.data.toList = .bad a n by rw [HF0.out, ha])
      clear ha
      go_enter Tryz.func11, Tryz.ntmps11
      go_wp2_with (first
        | (go_at_call 32; ((with_reducible refine (parsing_calls s _ hs HE.out).mono ?_); rintro e w2 ⟨P, rfl, hP, hb, hsc⟩; rw [HO.out] at hsc; obtain ⟨A, c, hp⟩ := hsc; have HPG := Lib.hid (show w.heap.size + 1 ≤ P by simpa using hP); have HPL := Lib.hid hp.lt; have HB := Lib.hid hb; have hs3 := hp.below ((Below.refl w2.heap.size w2).alloc (Nat.le_refl _) (.cells #[.string ⟨#[]⟩, .slice none 0 0] 25)); have HS3 := Lib.hid hs3; have C4 := Lib.hid hs3.c4; have HSZ := Lib.hid (show w.heap.size + 1 ≤ w2.heap.size by have := hb.size; simpa using this); have HR3 := Lib.hid (blk_keep (blk_keep HR0.out (grown_below hb none) (by simp)) (World.grownBy_alloc w2 (.cells #[.string ⟨#[]⟩, .slice none 0 0] 25) none) (by simp)); have HA3 := Lib.hid (heap_alloc_new w2 (.cells #[.string ⟨#[]⟩, .slice none 0 0] 25)); have HB3 := Lib.hid (show Below w.heap.size w (w2.alloc (.cells #[.string ⟨#[]⟩, .slice none 0 0] 25)) from ((((Below.refl w.heap.size w).alloc (Nat.le_refl _) (.cells #[.string ⟨#[]⟩, .slice none 0 0] 25)).trans (hb.mono (by simp))).alloc (by have := hb.size; simp at this; omega) _)); clear hP hb hp hs3))
        | (go_at_call 33; ((with_reducible refine (pokq true _ C4.out rfl).mono ?_); rintro e w' ⟨rfl, hw⟩; rw [hw]; clear hw))
        | (go_at_call 34; ((with_reducible refine (atom_calls (r := l) _ (po_at (nx := 0) (Nat.zero_le _) rfl HS3.out) HMAX.out).mono ?_); rintro e w4 ⟨hg4, x, v, rfl, hta, hgot⟩; obtain ⟨Aa, ca, rfl⟩ := o_slice hta; rw [HAT.out] at hgot; obtain ⟨he0, nx1, hnx1, hS1⟩ := hgot; have hr4 := blk_keep HR3.out hg4 (by have := HPG.out; simp; omega); have ha4 := blk_keep HA3.out hg4 (by have := HPL.out; simp; omega); have k0 := cell_of_row w4 w2.heap.size 0 _ _ _ ha4; have k1 := cell_of_row w4 w2.heap.size 1 _ _ _ ha4; have l0 := frozen_of_row w4 w2.heap.size 0 _ _ ha4; have l1 := frozen_of_row w4 w2.heap.size 1 _ _ ha4; have HR4 := Lib.hid hr4; have HA4 := Lib.hid ha4; have HTA := Lib.hid hta; have HG4 := Lib.hid hg4; have HBB := Lib.hid (show ((n : Int) == 0) = false by simp; omega); have HS4 := Lib.hid hS1; have HN1 := Lib.hid hnx1; clear hnx1 hS1 hg4 hr4 ha4 hta; refine RowKit.Hid.out ?_)))
      refine Lib.hid ?_
      go_wp2_with fail
      have hgS := grown_set (grown_set (World.grownBy.refl w4 (some w2.heap.size)) 0 (.string (bs x.p))) 1 (.slice Aa x.a.length ca)
      have hS5 := HS4.out.step hgS (fun j hj => by cases hj; exact ⟨by have := HPL.out; omega, _, _, _, HA4.out, by decide⟩)
      have hr5 := blk_keep HR4.out hgS (by have := HSZ.out; simp; omega)
      have ha5 := set_at (i := 1) (cs' := #[.string (bs x.p), .slice Aa x.a.length ca]) (set_at (i := 0) (cs' := #[.string (bs x.p), .slice none 0 0]) HA4.out (.string (bs x.p)) rfl) (.slice Aa x.a.length ca) rfl
      have hta5 : TermsAt (w2.heap.size + 1) ((w4.setCell ⟨w2.heap.size, 0, none⟩ (.string (bs x.p))).setCell ⟨w2.heap.size, 1, none⟩ (.slice Aa x.a.length ca)) x.a (.slice Aa x.a.length ca) := (TermsAt.base HTA.out (by simp)).kept hgS (fun j hj => by cases hj; exact .inl (Nat.lt_succ_self _))
      have hB4 : Below w.heap.size w w4 := HB3.out.grown HG4.out (by have := HSZ.out; simp; omega) (fun j hj => by cases hj; have := HPG.out; omega)
      have hB5 : Below w.heap.size w ((w4.setCell ⟨w2.heap.size, 0, none⟩ (.string (bs x.p))).setCell ⟨w2.heap.size, 1, none⟩ (.slice Aa x.a.length ca)) := (hB4.setCell (by have := HSZ.out; show w.heap.size ≤ w2.heap.size; omega) _).setCell (by have := HSZ.out; show w.heap.size ≤ w2.heap.size; omega) _
      have HS5 := Lib.hid hS5
      have HR5 := Lib.hid hr5
      have HA5 := Lib.hid ha5
      have HT5 := Lib.hid hta5
      have HB5 := Lib.hid hB5
      have c0 := hS5.c0; have c1 := hS5.c1; have c3 := hS5.c3; have c4 := hS5.c4
      have z0 := cell_of_row _ _ 0 _ _ _ hr5; have z1 := cell_of_row _ _ 1 _ _ _ hr5
      have y0 := frozen_of_row _ _ 0 _ _ hr5; have y1 := frozen_of_row _ _ 1 _ _ hr5
      have a0 := cell_of_row _ _ 0 _ _ _ ha5; have a1 := cell_of_row _ _ 1 _ _ _ ha5
      have C4' := Lib.hid c4
      clear hgS hS5 hr5 ha5 hta5 hB4 hB5 k0 k1 l0 l1
      obtain ⟨⟨⟨k2, s2, n2, q2⟩, a2⟩, hp2⟩ : ∃ p, pk s.size (l.drop nx1) 0 = p := ⟨_, rfl⟩
      have HP2 := Lib.hid hp2
      clear hp2
      by_cases hlt : nx1 < l.length
      · have hd : decide ((nx1 : Int) < (l.length : Int)) = true := decide_eq_true (by omega)
        go_region
        clear c0 c1 c3 c4 z0 z1 y0 y1 a0 a1
        go_wp2_with (first
          | (go_at_call 36; ((with_reducible refine (peek0_calls ⟨k2, s2, n2, q2⟩ a2 _ (HS5.out.below (Below.refl _ _).drew) HP2.out).mono ?_); rintro e w6 ⟨rfl, hb6⟩; have HB6 := Lib.hid (HB5.out.drew.trans (Below.mono (hb6) HB5.out.size)); have HS6 := Lib.hid ((HS5.out.below (Below.refl _ _).drew).below hb6); have HR6 := Lib.hid (blk_keep HR5.out (un_drew (grown_below hb6 none)) (by simp)); clear hb6))
          | (go_at_call 35; ((with_reducible refine (fail_bad_calls _ (bs s2) n2 q2 a2 2 _ HS6.out HBB.out).mono ?_); rintro e w7 ⟨rfl, hb7⟩; have HS7 := Lib.hid (HS6.out.below hb7); have HB7 := Lib.hid (HB6.out.trans (hb7.mono HB6.out.size)); have hr7 := blk_keep HR6.out (grown_below hb7 none) (by simp); have HR7 := Lib.hid hr7; have d3 := HS7.out.c3; have d4 := HS7.out.c4; have D4 := Lib.hid d4; have x0 := cell_of_row w7 w.heap.size 0 _ _ _ HR7.out; have x1 := cell_of_row w7 w.heap.size 1 _ _ _ HR7.out; have x2 := frozen_of_row w7 w.heap.size 0 _ _ HR7.out; have x3 := frozen_of_row w7 w.heap.size 1 _ _ HR7.out; clear hb7 hr7))
          | (go_at_call 33; ((with_reducible refine (pokq false _ D4.out HBB.out).mono ?_); rintro e w' ⟨rfl, hw⟩; rw [hw]; clear hw)))
        go_region
        go_wp2_with fail
        have hset := set_at (i := 1) (cs' := #[.string ⟨#[]⟩, .slice none 0 0]) (set_at (i := 0) (cs' := #[.string ⟨#[]⟩, .slice none 0 0]) HR7.out (.string ⟨#[]⟩) rfl) (.slice none 0 0) rfl
        have q0 := cell_of_row _ _ 0 _ _ _ hset
        have q1 := cell_of_row _ _ 1 _ _ _ hset
        refine bodyPost_ret (v := .tuple #[.agg #[.string ⟨#[]⟩, .slice none 0 0], .int .i64 (a : Int), .int .i64 (n : Int)]) (by simp [results, Tryz.results11, go_sem, q0, q1]) rfl ⟨((HB7.out.setCell (Nat.le_refl _) _).setCell (Nat.le_refl _) _).drew, ?_⟩
        rw [HF.out]
      · have hd : decide ((nx1 : Int) < (l.length : Int)) = false := decide_eq_false (by omega)
        go_region
        go_wp2_with (go_at_call 33; ((with_reducible refine (pokq false _ ?_ HBB.out).mono ?_); (focus (exact C4'.out)); rintro e w' ⟨rfl, hw⟩; rw [hw]; clear hw))
        go_region
        go_wp2_with fail
        have hset := set_at (i := 1) (cs' := #[.string ⟨#[]⟩, .slice none 0 0]) (set_at (i := 0) (cs' := #[.string ⟨#[]⟩, .slice none 0 0]) HR5.out (.string ⟨#[]⟩) rfl) (.slice none 0 0) rfl
        have q0 := cell_of_row _ _ 0 _ _ _ hset
        have q1 := cell_of_row _ _ 1 _ _ _ hset
        refine bodyPost_ret (v := .tuple #[.agg #[.string ⟨#[]⟩, .slice none 0 0], .int .i64 (a : Int), .int .i64 (n : Int)]) (by simp [results, Tryz.results11, go_sem, q0, q1]) rfl ⟨((HB5.out.setCell (Nat.le_refl _) _).setCell (Nat.le_refl _) _).drew.drew, ?_⟩
        rw [HF.out]
    | ok x0 r0 =>
      have HAT := Lib.hid ha
      cases hr0 : r0 with
      | nil =>
        have HF := Lib.hid (show atomL s.data.toList = .ok x0 by rw [HF0.out, ha, hr0])
        have HR0N := Lib.hid hr0
        clear ha hr0
        go_enter Tryz.func11, Tryz.ntmps11
        go_wp2_with (first
          | (go_at_call 32; ((with_reducible refine (parsing_calls s _ hs HE.out).mono ?_); rintro e w2 ⟨P, rfl, hP, hb, hsc⟩; rw [HO.out] at hsc; obtain ⟨A, c, hp⟩ := hsc; have HPG := Lib.hid (show w.heap.size + 1 ≤ P by simpa using hP); have HPL := Lib.hid hp.lt; have HB := Lib.hid hb; have hs3 := hp.below ((Below.refl w2.heap.size w2).alloc (Nat.le_refl _) (.cells #[.string ⟨#[]⟩, .slice none 0 0] 25)); have HS3 := Lib.hid hs3; have C4 := Lib.hid hs3.c4; have HSZ := Lib.hid (show w.heap.size + 1 ≤ w2.heap.size by have := hb.size; simpa using this); have HR3 := Lib.hid (blk_keep (blk_keep HR0.out (grown_below hb none) (by simp)) (World.grownBy_alloc w2 (.cells #[.string ⟨#[]⟩, .slice none 0 0] 25) none) (by simp)); have HA3 := Lib.hid (heap_alloc_new w2 (.cells #[.string ⟨#[]⟩, .slice none 0 0] 25)); have HB3 := Lib.hid (show Below w.heap.size w (w2.alloc (.cells #[.string ⟨#[]⟩, .slice none 0 0] 25)) from ((((Below.refl w.heap.size w).alloc (Nat.le_refl _) (.cells #[.string ⟨#[]⟩, .slice none 0 0] 25)).trans (hb.mono (by simp))).alloc (by have := hb.size; simp at this; omega) _)); clear hP hb hp hs3))
          | (go_at_call 33; ((with_reducible refine (pokq true _ C4.out rfl).mono ?_); rintro e w' ⟨rfl, hw⟩; rw [hw]; clear hw))
          | (go_at_call 34; ((with_reducible refine (atom_calls (r := l) _ (po_at (nx := 0) (Nat.zero_le _) rfl HS3.out) HMAX.out).mono ?_); rintro e w4 ⟨hg4, x, v, rfl, hta, hgot⟩; obtain ⟨Aa, ca, rfl⟩ := o_slice hta; rw [HAT.out] at hgot; obtain ⟨hxx, nx1, hnx1, hr1, hS1⟩ := hgot; have hr4 := blk_keep HR3.out hg4 (by have := HPG.out; simp; omega); have ha4 := blk_keep HA3.out hg4 (by have := HPL.out; simp; omega); have k0 := cell_of_row w4 w2.heap.size 0 _ _ _ ha4; have k1 := cell_of_row w4 w2.heap.size 1 _ _ _ ha4; have l0 := frozen_of_row w4 w2.heap.size 0 _ _ ha4; have l1 := frozen_of_row w4 w2.heap.size 1 _ _ ha4; have HR4 := Lib.hid hr4; have HA4 := Lib.hid ha4; have HTA := Lib.hid hta; have HG4 := Lib.hid hg4; have HXX := Lib.hid hxx; have HR1 := Lib.hid hr1; clear hxx hr1; have HS4 := Lib.hid hS1; have HN1 := Lib.hid hnx1; clear hnx1 hS1 hg4 hr4 ha4 hta; refine RowKit.Hid.out ?_)))
        refine Lib.hid ?_
        go_wp2_with fail
        have hgS := grown_set (grown_set (World.grownBy.refl w4 (some w2.heap.size)) 0 (.string (bs x.p))) 1 (.slice Aa x.a.length ca)
        have hS5 := HS4.out.step hgS (fun j hj => by cases hj; exact ⟨by have := HPL.out; omega, _, _, _, HA4.out, by decide⟩)
        have hr5 := blk_keep HR4.out hgS (by have := HSZ.out; simp; omega)
        have ha5 := set_at (i := 1) (cs' := #[.string (bs x.p), .slice Aa x.a.length ca]) (set_at (i := 0) (cs' := #[.string (bs x.p), .slice none 0 0]) HA4.out (.string (bs x.p)) rfl) (.slice Aa x.a.length ca) rfl
        have hta5 : TermsAt (w2.heap.size + 1) ((w4.setCell ⟨w2.heap.size, 0, none⟩ (.string (bs x.p))).setCell ⟨w2.heap.size, 1, none⟩ (.slice Aa x.a.length ca)) x.a (.slice Aa x.a.length ca) := (TermsAt.base HTA.out (by simp)).kept hgS (fun j hj => by cases hj; exact .inl (Nat.lt_succ_self _))
        have hB4 : Below w.heap.size w w4 := HB3.out.grown HG4.out (by have := HSZ.out; simp; omega) (fun j hj => by cases hj; have := HPG.out; omega)
        have hB5 : Below w.heap.size w ((w4.setCell ⟨w2.heap.size, 0, none⟩ (.string (bs x.p))).setCell ⟨w2.heap.size, 1, none⟩ (.slice Aa x.a.length ca)) := (hB4.setCell (by have := HSZ.out; show w.heap.size ≤ w2.heap.size; omega) _).setCell (by have := HSZ.out; show w.heap.size ≤ w2.heap.size; omega) _
        have HS5 := Lib.hid hS5
        have HR5 := Lib.hid hr5
        have HA5 := Lib.hid ha5
        have HT5 := Lib.hid hta5
        have HB5 := Lib.hid hB5
        have c0 := hS5.c0; have c1 := hS5.c1; have c3 := hS5.c3; have c4 := hS5.c4
        have z0 := cell_of_row _ _ 0 _ _ _ hr5; have z1 := cell_of_row _ _ 1 _ _ _ hr5
        have y0 := frozen_of_row _ _ 0 _ _ hr5; have y1 := frozen_of_row _ _ 1 _ _ hr5
        have a0 := cell_of_row _ _ 0 _ _ _ ha5; have a1 := cell_of_row _ _ 1 _ _ _ ha5
        have C4' := Lib.hid c4
        clear hgS hS5 hr5 ha5 hta5 hB4 hB5 k0 k1 l0 l1
        have hlt : ¬ nx1 < l.length := by have h1 := congrArg List.length HR1.out; have h2 := HN1.out; rw [HR0N.out] at h1; simp at h1; omega
        have hd : decide ((nx1 : Int) < (l.length : Int)) = false := decide_eq_false (by omega)
        go_region
        go_wp2_with (go_at_call 33; ((with_reducible refine (pokq true _ ?_ (show ((0 : Int) == 0) = true from rfl)).mono ?_); (focus (exact C4'.out)); rintro e w' ⟨rfl, hw⟩; rw [hw]; clear hw))
        have hset := set_at (i := 1) (cs' := #[.string (bs x.p), .slice Aa x.a.length ca]) (set_at (i := 0) (cs' := #[.string (bs x.p), .slice none 0 0]) HR5.out (.string (bs x.p)) rfl) (.slice Aa x.a.length ca) rfl
        have q0 := cell_of_row _ _ 0 _ _ _ hset
        have q1 := cell_of_row _ _ 1 _ _ _ hset
        refine bodyPost_ret (v := .tuple #[.agg #[.string (bs x.p), .slice Aa x.a.length ca], .int .i64 0, .int .i64 0]) ?_ rfl ?_
        · simp [results, Tryz.results11, go_sem, q0, q1]
        refine ⟨((HB5.out.setCell (Nat.le_refl _) _).setCell (Nat.le_refl _) _).drew, ?_⟩
        rw [HF.out, HXX.out]
        have hg2 := grown_set (grown_set (World.grownBy.refl ((w4.setCell ⟨w2.heap.size, 0, none⟩ (.string (bs x.p))).setCell ⟨w2.heap.size, 1, none⟩ (.slice Aa x.a.length ca)) (some w.heap.size)) 0 (.string (bs x.p))) 1 (.slice Aa x.a.length ca)
        exact ⟨_, rfl, TermsAt.base (HT5.out.kept (row := some w.heap.size) (grown_drew hg2) (fun j hj => by cases hj; exact .inl (by have := HSZ.out; omega))) (by have := HSZ.out; omega)⟩
      | cons t0 r1 =>
        have HF := Lib.hid (show atomL s.data.toList = .bad t0.2 2 by rw [HF0.out, ha, hr0])
        have HR0N := Lib.hid hr0
        clear ha hr0
        go_enter Tryz.func11, Tryz.ntmps11
        go_wp2_with (first
          | (go_at_call 32; ((with_reducible refine (parsing_calls s _ hs HE.out).mono ?_); rintro e w2 ⟨P, rfl, hP, hb, hsc⟩; rw [HO.out] at hsc; obtain ⟨A, c, hp⟩ := hsc; have HPG := Lib.hid (show w.heap.size + 1 ≤ P by simpa using hP); have HPL := Lib.hid hp.lt; have HB := Lib.hid hb; have hs3 := hp.below ((Below.refl w2.heap.size w2).alloc (Nat.le_refl _) (.cells #[.string ⟨#[]⟩, .slice none 0 0] 25)); have HS3 := Lib.hid hs3; have C4 := Lib.hid hs3.c4; have HSZ := Lib.hid (show w.heap.size + 1 ≤ w2.heap.size by have := hb.size; simpa using this); have HR3 := Lib.hid (blk_keep (blk_keep HR0.out (grown_below hb none) (by simp)) (World.grownBy_alloc w2 (.cells #[.string ⟨#[]⟩, .slice none 0 0] 25) none) (by simp)); have HA3 := Lib.hid (heap_alloc_new w2 (.cells #[.string ⟨#[]⟩, .slice none 0 0] 25)); have HB3 := Lib.hid (show Below w.heap.size w (w2.alloc (.cells #[.string ⟨#[]⟩, .slice none 0 0] 25)) from ((((Below.refl w.heap.size w).alloc (Nat.le_refl _) (.cells #[.string ⟨#[]⟩, .slice none 0 0] 25)).trans (hb.mono (by simp))).alloc (by have := hb.size; simp at this; omega) _)); clear hP hb hp hs3))
          | (go_at_call 33; ((with_reducible refine (pokq true _ C4.out rfl).mono ?_); rintro e w' ⟨rfl, hw⟩; rw [hw]; clear hw))
          | (go_at_call 34; ((with_reducible refine (atom_calls (r := l) _ (po_at (nx := 0) (Nat.zero_le _) rfl HS3.out) HMAX.out).mono ?_); rintro e w4 ⟨hg4, x, v, rfl, hta, hgot⟩; obtain ⟨Aa, ca, rfl⟩ := o_slice hta; rw [HAT.out] at hgot; obtain ⟨hxx, nx1, hnx1, hr1, hS1⟩ := hgot; have hr4 := blk_keep HR3.out hg4 (by have := HPG.out; simp; omega); have ha4 := blk_keep HA3.out hg4 (by have := HPL.out; simp; omega); have k0 := cell_of_row w4 w2.heap.size 0 _ _ _ ha4; have k1 := cell_of_row w4 w2.heap.size 1 _ _ _ ha4; have l0 := frozen_of_row w4 w2.heap.size 0 _ _ ha4; have l1 := frozen_of_row w4 w2.heap.size 1 _ _ ha4; have HR4 := Lib.hid hr4; have HA4 := Lib.hid ha4; have HTA := Lib.hid hta; have HG4 := Lib.hid hg4; have HXX := Lib.hid hxx; have HR1 := Lib.hid hr1; clear hxx hr1; have HS4 := Lib.hid hS1; have HN1 := Lib.hid hnx1; clear hnx1 hS1 hg4 hr4 ha4 hta; refine RowKit.Hid.out ?_)))
        refine Lib.hid ?_
        go_wp2_with fail
        have hgS := grown_set (grown_set (World.grownBy.refl w4 (some w2.heap.size)) 0 (.string (bs x.p))) 1 (.slice Aa x.a.length ca)
        have hS5 := HS4.out.step hgS (fun j hj => by cases hj; exact ⟨by have := HPL.out; omega, _, _, _, HA4.out, by decide⟩)
        have hr5 := blk_keep HR4.out hgS (by have := HSZ.out; simp; omega)
        have ha5 := set_at (i := 1) (cs' := #[.string (bs x.p), .slice Aa x.a.length ca]) (set_at (i := 0) (cs' := #[.string (bs x.p), .slice none 0 0]) HA4.out (.string (bs x.p)) rfl) (.slice Aa x.a.length ca) rfl
        have hta5 : TermsAt (w2.heap.size + 1) ((w4.setCell ⟨w2.heap.size, 0, none⟩ (.string (bs x.p))).setCell ⟨w2.heap.size, 1, none⟩ (.slice Aa x.a.length ca)) x.a (.slice Aa x.a.length ca) := (TermsAt.base HTA.out (by simp)).kept hgS (fun j hj => by cases hj; exact .inl (Nat.lt_succ_self _))
        have hB4 : Below w.heap.size w w4 := HB3.out.grown HG4.out (by have := HSZ.out; simp; omega) (fun j hj => by cases hj; have := HPG.out; omega)
        have hB5 : Below w.heap.size w ((w4.setCell ⟨w2.heap.size, 0, none⟩ (.string (bs x.p))).setCell ⟨w2.heap.size, 1, none⟩ (.slice Aa x.a.length ca)) := (hB4.setCell (by have := HSZ.out; show w.heap.size ≤ w2.heap.size; omega) _).setCell (by have := HSZ.out; show w.heap.size ≤ w2.heap.size; omega) _
        have HS5 := Lib.hid hS5
        have HR5 := Lib.hid hr5
        have HA5 := Lib.hid ha5
        have HT5 := Lib.hid hta5
        have HB5 := Lib.hid hB5
        have c0 := hS5.c0; have c1 := hS5.c1; have c3 := hS5.c3; have c4 := hS5.c4
        have z0 := cell_of_row _ _ 0 _ _ _ hr5; have z1 := cell_of_row _ _ 1 _ _ _ hr5
        have y0 := frozen_of_row _ _ 0 _ _ hr5; have y1 := frozen_of_row _ _ 1 _ _ hr5
        have a0 := cell_of_row _ _ 0 _ _ _ ha5; have a1 := cell_of_row _ _ 1 _ _ _ ha5
        have C4' := Lib.hid c4
        clear hgS hS5 hr5 ha5 hta5 hB4 hB5 k0 k1 l0 l1
        obtain ⟨⟨⟨k2, s2, n2, q2⟩, a2⟩, hp2⟩ : ∃ p, t0 = p := ⟨_, rfl⟩
        have HP2 := Lib.hid (show pk s.size (l.drop nx1) 0 = (⟨k2, s2, n2, q2⟩, a2) by rw [HR1.out, HR0N.out, hp2]; rfl)
        have HT0 := Lib.hid hp2
        clear hp2
        have hlt : nx1 < l.length := by have h1 := congrArg List.length HR1.out; rw [HR0N.out] at h1; simp at h1; omega
        have hd : decide ((nx1 : Int) < (l.length : Int)) = true := decide_eq_true (by omega)
        go_region
        clear c0 c1 c3 c4 z0 z1 y0 y1 a0 a1
        go_wp2_with (first
          | (go_at_call 36; ((with_reducible refine (peek0_calls ⟨k2, s2, n2, q2⟩ a2 _ (HS5.out.below (Below.refl _ _).drew) HP2.out).mono ?_); rintro e w6 ⟨rfl, hb6⟩; have HB6 := Lib.hid (HB5.out.drew.trans (Below.mono (hb6) HB5.out.size)); have HS6 := Lib.hid ((HS5.out.below (Below.refl _ _).drew).below hb6); have HR6 := Lib.hid (blk_keep HR5.out (un_drew (grown_below hb6 none)) (by simp)); clear hb6))
          | (go_at_call 35; ((with_reducible refine (fail_ok_calls _ (bs s2) n2 q2 a2 2 _ HS6.out).mono ?_); rintro e w7 ⟨rfl, hs7, hg7⟩; have HS7 := Lib.hid hs7; have HB7 := Lib.hid (HB6.out.grown hg7 (Nat.le_trans (Nat.le_refl _) HB6.out.size) (fun j hj => by cases hj; have := HPG.out; omega)); have hr7 := blk_keep HR6.out hg7 (by have := HPG.out; simp; omega); have HR7 := Lib.hid hr7; have d3 := HS7.out.c3; have d4 := HS7.out.c4; have D4 := Lib.hid d4; have x0 := cell_of_row w7 w.heap.size 0 _ _ _ HR7.out; have x1 := cell_of_row w7 w.heap.size 1 _ _ _ HR7.out; have x2 := frozen_of_row w7 w.heap.size 0 _ _ HR7.out; have x3 := frozen_of_row w7 w.heap.size 1 _ _ HR7.out; clear hs7 hg7 hr7))
          | (go_at_call 33; ((with_reducible refine (pokq false _ D4.out (show ((2 : Int) == 0) = false from rfl)).mono ?_); rintro e w' ⟨rfl, hw⟩; rw [hw]; clear hw)))
        go_region
        go_wp2_with fail
        have hset := set_at (i := 1) (cs' := #[.string ⟨#[]⟩, .slice none 0 0]) (set_at (i := 0) (cs' := #[.string ⟨#[]⟩, .slice none 0 0]) HR7.out (.string ⟨#[]⟩) rfl) (.slice none 0 0) rfl
        have q0 := cell_of_row _ _ 0 _ _ _ hset
        have q1 := cell_of_row _ _ 1 _ _ _ hset
        refine bodyPost_ret (v := .tuple #[.agg #[.string ⟨#[]⟩, .slice none 0 0], .int .i64 (a2 : Int), .int .i64 (2 : Int)]) (by simp [results, Tryz.results11, go_sem, q0, q1]) rfl ⟨((HB7.out.setCell (Nat.le_refl _) _).setCell (Nat.le_refl _) _).drew, ?_⟩
        rw [HF.out]
        rw [HT0.out]
        rfl
end Go.Proofs.YtminbdcabacfbaaGreatDoor.V

namespace Go.Proofs.YtminbdcabacfbaaGreatDoor.V
set_option linter.unusedVariables false
set_option linter.unusedSimpArgs false
open Go.RowKit

section
variable {N : Nat} {r : List TP} {a e : Nat}
theorem nameP_bad (h : nameP N r = .bad a e) : e ≠ 0 := by
  unfold nameP at h
  split at h
  · cases h
  · injection h with _ h; omega
theorem termP_bad (h : termP N r = .bad a e) : e ≠ 0 := by
  unfold termP at h
  repeat' split at h
  all_goals first
    | (cases h; done)
    | (injection h with _ h; omega)
theorem markP_bad {α : Type} {m : List UInt8} {x : α} (h : markP N m x r = .bad a e) : e ≠ 0 := by
  unfold markP at h
  split at h
  · cases h
  · injection h with _ h; omega
theorem someP_bad {α : Type} {one : List TP → Par α} (ho : ∀ r a e, one r = .bad a e → e ≠ 0) : ∀ (m : Nat) (r : List TP) (a e : Nat), someP one N m r = .bad a e → e ≠ 0 := by
  intro m
  induction m with
  | zero => intro r a e h; injection h with _ h; omega
  | succ m ih =>
    intro r a e h
    unfold someP at h
    split at h
    · rename_i a2 e2 h2
      injection h with _ h
      subst h
      exact ho _ _ _ h2
    · split at h
      · split at h
        · rename_i a2 e2 h2
          injection h with _ h
          subst h
          exact ih _ _ _ h2
        · cases h
      · cases h
theorem atomP_bad (h : atomP N r = .bad a e) : e ≠ 0 := by
  unfold atomP at h
  split at h
  · rename_i a2 e2 h2
    injection h with _ h
    subst h
    exact nameP_bad h2
  · split at h
    · split at h
      · rename_i a2 e2 h2
        injection h with _ h
        subst h
        exact someP_bad (fun _ _ _ => termP_bad) _ _ _ _ h2
      · exact markP_bad h
    · cases h
end
theorem rscan6_no {a m : Nat} (s : ByteArray) (w : World) (h : scanL s.data.toList = .bad a m) : Calls Tryz.prog 37 #[.string s] w fun e w' => Below w.heap.size w w' ∧ e = .returned (.tuple #[.slice none 0 0, .int .i64 (a : Int), .int .i64 (m : Int)]) := by
  refine (rscan_calls s w).mono ?_
  rintro e w' ⟨hb, hp⟩
  rw [h] at hp
  exact ⟨hb, hp⟩
theorem rscan6_yes {l : List TP} (s : ByteArray) (w : World) (h : scanL s.data.toList = .ok l) : Calls Tryz.prog 37 #[.string s] w fun e w' => Below w.heap.size w w' ∧ ∃ A n c, n = l.length ∧ n ≤ 65536 ∧ e = .returned (.tuple #[.slice A n c, .int .i64 0, .int .i64 0]) ∧ TkAt w' A n l := by
  refine (rscan_calls s w).mono ?_
  rintro e w' ⟨hb, hp⟩
  rw [h] at hp
  obtain ⟨v, rfl, ho, hz, hl⟩ := hp
  obtain ⟨n, hn⟩ : ∃ n, l.length = n := ⟨_, rfl⟩
  rw [hn] at ho hl
  obtain ⟨A, c, rfl⟩ := o_slice ho
  exact ⟨hb, A, n, c, hn.symm, hl, rfl, hn.symm, toks_row ho hn.symm⟩
theorem pk_max {N i : Nat} {L : List TP} {t : Tok} {a : Nat} (hm : ∀ p ∈ L, p.1.s.length ≤ 65536) (hp : pk N (L.drop i) 0 = (t, a)) : t.s.length ≤ 1048576 := by
  unfold pk at hp
  rw [List.getElem?_drop] at hp
  cases hx : L[i + 0]? with
  | none => rw [hx] at hp; cases hp; exact Nat.zero_le _
  | some p =>
    rw [hx] at hp
    have := hm p (List.mem_of_getElem? hx)
    cases hp
    simp only [Option.getD] at *
    omega
/-- The document's atom, whatever stands there. -/
theorem ratom_calls (A : Option Addr) (n c : Nat) (L : List TP) (N i : Nat) (w : World) (h : TkAt w A n L) (hm : ∀ p ∈ L, p.1.s.length ≤ 65536) (hn6 : n ≤ 1000000) (hi : i ≤ 1000000) :
    Calls Tryz.prog 38 #[.agg #[.slice A n c, .int .i64 (N : Int)], .int .i64 (i : Int)] w fun e w' => Below w.heap.size w w' ∧ RAtomIs N L i w.heap.size e w' := by
  obtain ⟨⟨t, a⟩, hp⟩ : ∃ p, pk N (L.drop i) 0 = p := ⟨_, rfl⟩
  obtain ⟨⟨t2, a2⟩, hp2⟩ : ∃ p, pk N (L.drop (i + 1)) 0 = p := ⟨_, rfl⟩
  have hs := pk_max hm hp
  cases hv : (t.k == 1 && !t.q && plainL t.s) with
  | false => exact ratom_name A n c L N i t a w h hp hs hi hv
  | true =>
    have hiL : i < L.length := by
      rcases Nat.lt_or_ge i L.length with h' | h'
      · exact h'
      · rw [List.drop_eq_nil_of_le h', pk_nil] at hp
        cases hp
        simp at hv
    cases hv2 : (t2.k == 4 && t2.s == [40]) with
    | false => exact ratom_plain A n c L N i t a t2 a2 w h hp hs hi hiL hv hp2 hv2
    | true => exact ratom_args A n c L N i t a t2 a2 w h hp hs hi hiL hv hp2 hv2 hn6
set_option maxRecDepth 100000 in
set_option maxHeartbeats 16000000 in
theorem rAtom_calls (s : ByteArray) (w : World) (hs9 : s.size ≤ 1048576) :
    Calls Tryz.prog 12 #[.string s] w (PAtomIs s w) := by
  have HB0 := Lib.hid ((Below.refl w.heap.size w).alloc (Nat.le_refl _) (.cells #[.string ⟨#[]⟩, .slice none 0 0] 25))
  have HR0 := Lib.hid (IsAt.new (v0 := .string ⟨#[]⟩) (v1 := .slice none 0 0) w)
  cases ho : scanL s.data.toList with
  | bad a n =>
    have HSCN := Lib.hid (fun (W : World) => rscan6_no s W ho)
    have HF := Lib.hid (show atomL s.data.toList = .bad a n by unfold atomL; rw [ho])
    have hbb : ((n : Int) != 0) = true := by have := scan_bad ho; simp; omega
    clear ho
    go_enter Tryz.func12, Tryz.ntmps12
    go_wp2_with (go_at_call 37; ((with_reducible refine (HSCN.out _).mono ?_); rintro e w1 ⟨hb1, rfl⟩; have HB1 := Lib.hid (HB0.out.trans (hb1.mono HB0.out.size)); have HR1 := Lib.hid (HR0.out.below hb1); have r0 := HR1.out.c0; have r1 := HR1.out.c1; have q0 := HR1.out.fr 0; have q1 := HR1.out.fr 1; clear hb1))
    have hset := HR1.out.set (.string ⟨#[]⟩) (.slice none 0 0)
    have p0 := hset.c0
    have p1 := hset.c1
    have hbz := below_IsAt HB1.out (T := w.heap.size) (Nat.le_refl _) (.string ⟨#[]⟩) (.slice none 0 0)
    refine bodyPost_ret (v := .tuple #[.agg #[.string ⟨#[]⟩, .slice none 0 0], .int .i64 (a : Int), .int .i64 (n : Int)]) (by simp [results, Tryz.results12, go_sem, p0, p1]) rfl ⟨(by first | exact hbz | exact hbz.drew), ?_⟩
    rw [HF.out]
  | ok l =>
    have HMAX := Lib.hid (scanL_max ho)
    have HSCN := Lib.hid (fun (W : World) => rscan6_yes s W ho)
    have HATM := Lib.hid (fun (A : Option Addr) (n c : Nat) (W : World) (h : TkAt W A n l) (hn6 : n ≤ 65536) => (show Calls Tryz.prog 38 #[.agg #[.slice A n c, .int .i64 (s.size : Int)], .int .i64 0] W (fun e w' => Below W.heap.size W w' ∧ RAtomIs s.size l 0 W.heap.size e w') from ratom_calls A n c l s.size 0 W h HMAX.out (by omega) (by omega)))
    have HF0 := Lib.hid (show atomL s.data.toList = match atomP s.size l with | .bad a e => .bad a e | .ok x [] => .ok x | .ok x (t :: _) => .bad t.2 2 by
      unfold atomL
      rw [ho]
      simp only [Array.length_toList, ByteArray.size_data]
      rfl)
    clear ho
    cases ha : atomP s.size l with
    | bad a n =>
      have hbb : ((n : Int) != 0) = true := by have := atomP_bad ha; simp; omega
      have HIS := Lib.hid (fun (b : Nat) (e : Ending) (w' : World) (h : RAtomIs s.size l 0 b e w') => (show ∃ v0 Aa na ca, e = .returned (.tuple #[.agg #[.string v0, .slice Aa na ca], .agg #[.int .i64 0, .int .i64 (n : Int), .int .i64 (a : Int)]]) from by
        unfold RAtomIs at h
        rw [List.drop_zero, ha] at h
        exact h))
      have HF := Lib.hid (show atomL s.data.toList = .bad a n by rw [HF0.out, ha])
      clear ha
      go_enter Tryz.func12, Tryz.ntmps12
      go_wp2_with (first
        | (go_at_call 37; ((with_reducible refine (HSCN.out _).mono ?_); rintro e w1 ⟨hb1, A, m, c, hn, hn6, rfl, htk⟩; have HN := Lib.hid hn; have HN6 := Lib.hid hn6; have HB1 := Lib.hid (HB0.out.trans (hb1.mono HB0.out.size)); have HT1 := Lib.hid htk; have HR1 := Lib.hid (HR0.out.below hb1); clear hb1 hn hn6 htk))
        | (go_at_call 38; ((with_reducible refine (HATM.out _ _ _ _ HT1.out HN6.out).mono ?_); rintro e w2 ⟨hb2, hat⟩; obtain ⟨v0, Aa, na, ca, rfl⟩ := HIS.out _ _ _ hat; clear hat; have hb3 := ((Below.refl w2.heap.size w2).alloc (Nat.le_refl _) (.cells #[.string v0, .slice Aa na ca] 25)).alloc (by simp) (.cells #[.int .i64 0, .int .i64 (n : Int), .int .i64 (a : Int)] 76); have HB3 := Lib.hid ((HB1.out.trans (hb2.mono HB1.out.size)).trans (hb3.mono (Nat.le_trans HB1.out.size hb2.size))); have HR3 := Lib.hid ((HR1.out.below hb2).below hb3); have HT3 := Lib.hid ((HT1.out.below hb2).below hb3); have HA3 := Lib.hid (show IsAt w2.heap.size (.string v0) (.slice Aa na ca) ((w2.alloc (.cells #[.string v0, .slice Aa na ca] 25)).alloc (.cells #[.int .i64 0, .int .i64 (n : Int), .int .i64 (a : Int)] 76)) from (IsAt.new (v0 := .string v0) (v1 := .slice Aa na ca) w2).alloc _); have HS3 := Lib.hid (show IsSt (w2.heap.size + 1) (.int .i64 0) (.int .i64 (n : Int)) (.int .i64 (a : Int)) ((w2.alloc (.cells #[.string v0, .slice Aa na ca] 25)).alloc (.cells #[.int .i64 0, .int .i64 (n : Int), .int .i64 (a : Int)] 76)) from (by have h := IsSt.new (v0 := .int .i64 0) (v1 := .int .i64 (n : Int)) (v2 := .int .i64 (a : Int)) (w2.alloc (.cells #[.string v0, .slice Aa na ca] 25)); rw [World.size_alloc] at h; exact h)); have HZ := Lib.hid (show w.heap.size + 1 ≤ w2.heap.size from Nat.le_trans (by have := HB1.out.size; have := HR1.out.lt; omega) hb2.size); have r0 := HR3.out.c0; have r1 := HR3.out.c1; have q0 := HR3.out.fr 0; have q1 := HR3.out.fr 1; have s0 := HS3.out.c0; have s1 := HS3.out.c1; have s2 := HS3.out.c2; have a0 := HA3.out.c0; have a1 := HA3.out.c1; have hn1 : w2.heap.size ≠ w.heap.size := (by have := HZ.out; omega); have hn2 : w.heap.size ≠ w2.heap.size := (by have := HZ.out; omega); have hn3 : w2.heap.size + 1 ≠ w.heap.size := (by have := HZ.out; omega); have hn4 : w.heap.size ≠ w2.heap.size + 1 := (by have := HZ.out; omega); clear hb2 hb3)))
      go_region
      go_wp2_with fail
      have hset := HR3.out.set (.string ⟨#[]⟩) (.slice none 0 0)
      have p0 := hset.c0
      have p1 := hset.c1
      have hbz := below_IsAt HB3.out (T := w.heap.size) (Nat.le_refl _) (.string ⟨#[]⟩) (.slice none 0 0)
      refine bodyPost_ret (v := .tuple #[.agg #[.string ⟨#[]⟩, .slice none 0 0], .int .i64 (a : Int), .int .i64 (n : Int)]) (by simp [results, Tryz.results12, go_sem, p0, p1]) rfl ⟨(by first | exact hbz | exact hbz.drew), ?_⟩
      rw [HF.out]
    | ok x r =>
      have HIS := Lib.hid (fun (b : Nat) (e : Ending) (w' : World) (h : RAtomIs s.size l 0 b e w') => (show ∃ (j : Nat) (Aa : Option Addr) (na ca : Nat), na = x.a.length ∧ r = l.drop j ∧ j ≤ l.length ∧ e = .returned (.tuple #[.agg #[.string (bs x.p), .slice Aa na ca], .agg #[.int .i64 (j : Int), .int .i64 0, .int .i64 0]]) ∧ TermsAt b w' x.a (.slice Aa na ca) from by
        unfold RAtomIs at h
        rw [List.drop_zero, ha] at h
        exact h))
      have HA := Lib.hid ha
      clear ha
      go_enter Tryz.func12, Tryz.ntmps12
      go_wp2_with (first
        | (go_at_call 37; ((with_reducible refine (HSCN.out _).mono ?_); rintro e w1 ⟨hb1, A, n, c, hn, hn6, rfl, htk⟩; have HN := Lib.hid hn; have HN6 := Lib.hid hn6; have HB1 := Lib.hid (HB0.out.trans (hb1.mono HB0.out.size)); have HT1 := Lib.hid htk; have HR1 := Lib.hid (HR0.out.below hb1); clear hb1 hn hn6 htk))
        | (go_at_call 38; ((with_reducible refine (HATM.out _ _ _ _ HT1.out HN6.out).mono ?_); rintro e w2 ⟨hb2, hat⟩; obtain ⟨j, Aa, na, ca, hna, hr, hj, rfl, hta⟩ := HIS.out _ _ _ hat; have HNA := Lib.hid hna; have HJ := Lib.hid hj; have HRJ := Lib.hid hr; have HTA := Lib.hid hta; have HW2 := Lib.hid (hb2.size); clear hat hna hr hj hta; have hb3 := ((Below.refl w2.heap.size w2).alloc (Nat.le_refl _) (.cells #[.string (bs x.p), .slice Aa na ca] 25)).alloc (by simp) (.cells #[.int .i64 (j : Int), .int .i64 0, .int .i64 0] 76); have HB3 := Lib.hid ((HB1.out.trans (hb2.mono HB1.out.size)).trans (hb3.mono (Nat.le_trans HB1.out.size hb2.size))); have HR3 := Lib.hid ((HR1.out.below hb2).below hb3); have HT3 := Lib.hid ((HT1.out.below hb2).below hb3); have HA3 := Lib.hid (show IsAt w2.heap.size (.string (bs x.p)) (.slice Aa na ca) ((w2.alloc (.cells #[.string (bs x.p), .slice Aa na ca] 25)).alloc (.cells #[.int .i64 (j : Int), .int .i64 0, .int .i64 0] 76)) from (IsAt.new (v0 := .string (bs x.p)) (v1 := .slice Aa na ca) w2).alloc _); have HS3 := Lib.hid (show IsSt (w2.heap.size + 1) (.int .i64 (j : Int)) (.int .i64 0) (.int .i64 0) ((w2.alloc (.cells #[.string (bs x.p), .slice Aa na ca] 25)).alloc (.cells #[.int .i64 (j : Int), .int .i64 0, .int .i64 0] 76)) from (by have h := IsSt.new (v0 := .int .i64 (j : Int)) (v1 := .int .i64 0) (v2 := .int .i64 0) (w2.alloc (.cells #[.string (bs x.p), .slice Aa na ca] 25)); rw [World.size_alloc] at h; exact h)); have HZ := Lib.hid (show w.heap.size + 1 ≤ w2.heap.size from Nat.le_trans (by have := HB1.out.size; have := HR1.out.lt; omega) hb2.size); have r0 := HR3.out.c0; have r1 := HR3.out.c1; have q0 := HR3.out.fr 0; have q1 := HR3.out.fr 1; have s0 := HS3.out.c0; have s1 := HS3.out.c1; have s2 := HS3.out.c2; have a0 := HA3.out.c0; have a1 := HA3.out.c1; have hn1 : w2.heap.size ≠ w.heap.size := (by have := HZ.out; omega); have hn2 : w.heap.size ≠ w2.heap.size := (by have := HZ.out; omega); have hn3 : w2.heap.size + 1 ≠ w.heap.size := (by have := HZ.out; omega); have hn4 : w.heap.size ≠ w2.heap.size + 1 := (by have := HZ.out; omega); have HB33 := Lib.hid hb3; clear hb2 hb3)))
      · rename_i hlt
        have hd : decide ((j : Int) < (n : Int)) = true := decide_eq_true (by omega)
        obtain ⟨⟨t, b⟩, hx⟩ : ∃ p, l[j]? = some p := ⟨_, List.getElem?_eq_getElem (show j < l.length by have := HN.out; omega)⟩
        obtain ⟨ad, rfl, hh⟩ := HT3.out.ht j (gtOf (t, b)) (by rw [List.getElem?_map, hx]; rfl)
        have d4 := hh.c4
        simp only [gtOf] at d4
        have HF := Lib.hid (show atomL s.data.toList = .bad b 2 by
          rw [HF0.out, HA.out, HRJ.out]
          have hlj : j < l.length := by have := HN.out; omega
          rw [List.drop_eq_getElem_cons hlj]
          rw [List.getElem?_eq_getElem hlj] at hx
          injection hx with hx
          rw [hx])
        have hjn : (j : Int) < (n : Int) := by omega
        clear hx hh
        go_wp2_with fail
        go_region
        go_wp2_with fail
        have hset := HR3.out.set (.string ⟨#[]⟩) (.slice none 0 0)
        have p0 := hset.c0
        have p1 := hset.c1
        have hbz := below_IsAt HB3.out (T := w.heap.size) (Nat.le_refl _) (.string ⟨#[]⟩) (.slice none 0 0)
        refine bodyPost_ret (v := .tuple #[.agg #[.string ⟨#[]⟩, .slice none 0 0], .int .i64 (b : Int), .int .i64 2]) (by simp [results, Tryz.results12, go_sem, p0, p1]) rfl ⟨(by first | exact hbz | exact hbz.drew), ?_⟩
        rw [HF.out]
        rfl
      · rename_i hlt
        have HF := Lib.hid (show atomL s.data.toList = .ok x by
          rw [HF0.out, HA.out, HRJ.out, List.drop_eq_nil_of_le (by have := HN.out; omega)])
        have hset := HR3.out.set (.string (bs x.p)) (.slice Aa na ca)
        have p0 := hset.c0
        have p1 := hset.c1
        have hbz := below_IsAt HB3.out (T := w.heap.size) (Nat.le_refl _) (.string (bs x.p)) (.slice Aa na ca)
        refine bodyPost_ret (v := .tuple #[.agg #[.string (bs x.p), .slice Aa na ca], .int .i64 0, .int .i64 0]) ?_ ?_ ?_
        · simp [results, Tryz.results12, go_sem, p0, p1]
        · rfl
        refine ⟨(by first | exact hbz | exact hbz.drew), ?_⟩
        rw [HF.out]
        refine ⟨_, rfl, ?_⟩
        have h1 : TermsAt (w.heap.size + 1) _ x.a (.slice Aa na ca) := TermsAt.base (HTA.out.below HB33.out) (by have := HZ.out; have := HW2.out; have := HR1.out.lt; omega)
        unfold TermsAt at h1 ⊢
        exact o_base (o_setAt h1 (Nat.lt_succ_self _) _ _) (by omega)
end Go.Proofs.YtminbdcabacfbaaGreatDoor.V

namespace Go.Proofs.YtminbdcabacfbaaGreatDoor.V
set_option linter.unusedVariables false
set_option linter.unusedSimpArgs false
open Go.RowKit

set_option maxRecDepth 100000 in
set_option maxHeartbeats 8000000 in
theorem rsame_calls (p : List UInt8) (xs : List TermL) (A B : Option Addr) (n c d : Nat) (b1 b2 : Nat) (w : World) (hn : n = xs.length) (hn2 : n ≤ 1000000) (h1 : TermsAt b1 w xs (.slice A n c)) (h2 : TermsAt b2 w xs (.slice B n d)) :
    Calls Tryz.prog 13 #[.agg #[.string (bs p), .slice A n c], .agg #[.string (bs p), .slice B n d]] w fun e w' => e = .returned (.bool true) ∧ Below w.heap.size w w' := by
  unfold TermsAt at h1 h2
  rw [← hn] at h1 h2
  have H1 := Lib.hid h1
  have H2 := Lib.hid h2
  have HN := Lib.hid hn
  have hpp : ((bs p).toList != (bs p).toList) = false := by simp
  have hnn : ((n : Int) != (n : Int)) = false := by simp
  have hb0 := ((Below.refl w.heap.size w).alloc (Nat.le_refl _) (.cells #[.string (bs p), .slice A n c] 25)).alloc (by simp) (.cells #[.string (bs p), .slice B n d] 25)
  have HB0 := Lib.hid hb0
  have HA1 := Lib.hid (show IsAt w.heap.size (.string (bs p)) (.slice A n c) ((w.alloc (.cells #[.string (bs p), .slice A n c] 25)).alloc (.cells #[.string (bs p), .slice B n d] 25)) from (IsAt.new w).alloc _)
  have HA2 := Lib.hid (show IsAt (w.heap.size + 1) (.string (bs p)) (.slice B n d) ((w.alloc (.cells #[.string (bs p), .slice A n c] 25)).alloc (.cells #[.string (bs p), .slice B n d] 25)) from by have h := IsAt.new (v0 := .string (bs p)) (v1 := .slice B n d) (w.alloc (.cells #[.string (bs p), .slice A n c] 25)); rwa [World.size_alloc] at h)
  have hw0g : ∃ w0, (w.alloc (.cells #[.string (bs p), .slice A n c] 25)).alloc (.cells #[.string (bs p), .slice B n d] 25) = w0 := ⟨_, rfl⟩
  clear h1 h2 hn hb0
  go_enter Tryz.func13, Tryz.ntmps13
  go_wp2_with fail
  obtain ⟨w0, hw0⟩ := hw0g
  rw [hw0] at HB0 HA1 HA2 ⊢
  go_loopw [5] (fun i wr => ∃ j : Nat, j ≤ n ∧ i = .int .i64 (j : Int) ∧ Below w0.heap.size w0 wr) (fun i _ => n + 1 - (intOf i).toNat)
  case atStart => exact ⟨0, Nat.zero_le _, rfl, Below.refl _ _⟩
  case round =>
    obtain ⟨j, hj, rfl, hb⟩ := hrel
    have HB := Lib.hid hb
    have a1 := cell_below hb HA1.out.c1
    have a2 := cell_below hb HA2.out.c1
    by_cases hlt : j < n
    · have hd : decide ((j : Int) < (n : Int)) = true := decide_eq_true (by omega)
      obtain ⟨x, hx⟩ : ∃ x, xs[j]? = some x := ⟨_, List.getElem?_eq_getElem (by rw [← HN.out]; exact hlt)⟩
      obtain ⟨g1, rfl, hc1⟩ := flat_row termC (fun x => rfl) (o_kb H1.out HB0.out) HN.out hx
      obtain ⟨g2, rfl, hc2⟩ := flat_row termC (fun x => rfl) (o_kb H2.out HB0.out) HN.out hx
      obtain ⟨xv, xx, xs', xt, xn⟩ := x
      have p0 : wr.cell? ⟨g1, j * 5, none⟩ = some (.bool xv) := cell_below hb (hc1 0 _ (by omega) rfl)
      have p1 := cell_below hb (hc1 1 _ (by omega) rfl)
      have p2 := cell_below hb (hc1 2 _ (by omega) rfl)
      have p3 := cell_below hb (hc1 3 _ (by omega) rfl)
      have p4 := cell_below hb (hc1 4 _ (by omega) rfl)
      have q0 : wr.cell? ⟨g2, j * 5, none⟩ = some (.bool xv) := cell_below hb (hc2 0 _ (by omega) rfl)
      have q1 := cell_below hb (hc2 1 _ (by omega) rfl)
      have q2 := cell_below hb (hc2 2 _ (by omega) rfl)
      have q3 := cell_below hb (hc2 3 _ (by omega) rfl)
      have q4 := cell_below hb (hc2 4 _ (by omega) rfl)
      have n0 : (xv != xv) = false := by simp
      have n1 : ((bs xx).toList != (bs xx).toList) = false := by simp
      have n2 : (xs' != xs') = false := by simp
      have n3 : ((bs xt).toList != (bs xt).toList) = false := by simp
      have n4 : (xn != xn) = false := by simp
      clear hb hc1 hc2 hx
      go_wp2_with fail
      go_quiet (fail)
      go_wp2_with fail
      go_roundw
      case rel => exact ⟨j + 1, hlt, by simp, HB.out.trans ⟨rfl, rfl, rfl, Nat.le_refl _, fun _ _ => rfl⟩⟩
      case measure => simp [intOf]; omega
    · have hjn : j = n := by omega
      subst hjn
      have hd : decide ((j : Int) < (j : Int)) = false := decide_eq_false (by omega)
      clear hb hlt hj
      go_wp2_with fail
      go_ret
      exact ⟨rfl, HB0.out.trans (HB.out.mono HB0.out.size)⟩
end Go.Proofs.YtminbdcabacfbaaGreatDoor.V

namespace Go.Proofs.YtminbdcabacfbaaGreatDoor.V
set_option linter.unusedVariables false
set_option linter.unusedSimpArgs false
open Go.RowKit

def exL : List UInt8 := [112, 40, 88, 41, 32, 58, 45, 32, 113, 40, 88, 44, 32, 97, 41, 44, 32, 110, 111, 116, 32, 114, 40, 88, 41, 44, 32, 88, 32, 60, 32, 51, 46]
def vX : TermL := ⟨true, [88], false, [], 0⟩
def exB : List LitL := [⟨1, ⟨[113], [vX, ⟨false, [], true, [97], 0⟩]⟩, [], term0, term0⟩, ⟨2, ⟨[114], [vX]⟩, [], term0, term0⟩, ⟨3, atom0, [60], vX, ⟨false, [], false, [], 3⟩⟩]
theorem ex_parse : parseL exL = .ok ([], [⟨⟨[112], [vX]⟩, exB⟩]) := by kernel_rfl
theorem ex_facts {base : Nat} {W : World} {vd vr : Value} (hd : DeclsAt base W [] vd) (hr : RulesAt base W [⟨⟨[112], [vX]⟩, exB⟩] vr) :
    ∃ Ad cd gr cr gb cb, vd = .slice Ad 0 cd ∧ vr = .slice (some ⟨gr, 0, none⟩) 1 cr ∧ W.cell? ⟨gr, 2, none⟩ = some (.slice (some ⟨gb, 0, none⟩) 3 cb) ∧ W.cell? ⟨gb, 0, none⟩ = some (.int .i64 1) ∧ W.cell? ⟨gb, 14, none⟩ = some (.int .i64 2) ∧ W.cell? ⟨gb, 28, none⟩ = some (.int .i64 3) ∧ W.cell? ⟨gb, 31, none⟩ = some (.string ⟨#[60]⟩) ∧ W.cell? ⟨gb, 41, none⟩ = some (.int .i64 3) := by
  obtain ⟨Ad, cd, rfl⟩ := o_slice hd
  obtain ⟨qs, hq, ho, hqs⟩ := hr
  obtain ⟨Ar, cr, rfl⟩ := o_slice ho
  match qs, hq with
  | [(q, va, vb)], hq =>
    simp only [List.map_cons, List.map_nil, List.cons.injEq, and_true] at hq
    subst hq
    obtain ⟨gr, rfl, hcr⟩ := o_at ho (by simp)
    obtain ⟨_, ps, hp, hop, _⟩ := hqs _ (List.mem_singleton.2 rfl)
    obtain ⟨Ab, cb, rfl⟩ := o_slice hop
    match ps, hp with
    | [(p1, v1), (p2, v2), (p3, v3)], hp =>
      simp only [exB, List.map_cons, List.map_nil, List.cons.injEq, and_true] at hp
      obtain ⟨rfl, rfl, rfl⟩ := hp
      obtain ⟨gb, rfl, hcb⟩ := o_at hop (by simp)
      exact ⟨Ad, cd, gr, cr, gb, cb, rfl, rfl, hcr 2 _ rfl, hcb 0 _ rfl, hcb 14 _ rfl, hcb 28 _ rfl, hcb 31 _ rfl, hcb 41 _ rfl⟩

theorem ex_calls (w : World) (hE : ErrW w) : Calls Tryz.prog 20 #[.string ⟨#[112, 40, 88, 41, 32, 58, 45, 32, 113, 40, 88, 44, 32, 97, 41, 44, 32, 110, 111, 116, 32, 114, 40, 88, 41, 44, 32, 88, 32, 60, 32, 51, 46]⟩] w fun e w' => Below w.heap.size w w' ∧ ∃ Ad cd gr cr gb cb, e = .returned (.tuple #[.agg #[.slice Ad 0 cd, .slice (some ⟨gr, 0, none⟩) 1 cr], .int .i64 0, .int .i64 0]) ∧ w'.cell? ⟨gr, 2, none⟩ = some (.slice (some ⟨gb, 0, none⟩) 3 cb) ∧ w'.cell? ⟨gb, 0, none⟩ = some (.int .i64 1) ∧ w'.cell? ⟨gb, 14, none⟩ = some (.int .i64 2) ∧ w'.cell? ⟨gb, 28, none⟩ = some (.int .i64 3) ∧ w'.cell? ⟨gb, 31, none⟩ = some (.string ⟨#[60]⟩) ∧ w'.cell? ⟨gb, 41, none⟩ = some (.int .i64 3) := by
  refine (parse_calls ⟨#[112, 40, 88, 41, 32, 58, 45, 32, 113, 40, 88, 44, 32, 97, 41, 44, 32, 110, 111, 116, 32, 114, 40, 88, 41, 44, 32, 88, 32, 60, 32, 51, 46]⟩ w (by decide) hE).mono ?_
  rintro e w' ⟨hb, hp⟩
  have he : parseL (⟨#[112, 40, 88, 41, 32, 58, 45, 32, 113, 40, 88, 44, 32, 97, 41, 44, 32, 110, 111, 116, 32, 114, 40, 88, 41, 44, 32, 88, 32, 60, 32, 51, 46]⟩ : ByteArray).data.toList = .ok ([], [⟨⟨[112], [vX]⟩, exB⟩]) := ex_parse
  rw [he] at hp
  obtain ⟨vd, vr, rfl, hd, hr, _, _⟩ := hp
  obtain ⟨Ad, cd, gr, cr, gb, cb, rfl, rfl, h⟩ := ex_facts hd hr
  exact ⟨hb, Ad, cd, gr, cr, gb, cb, rfl, h⟩

set_option maxRecDepth 100000 in
set_option maxHeartbeats 8000000 in
theorem shown6_calls (w : World) (hE : ErrW w) :
    Calls Tryz.prog 10 #[] w fun e w' => e = .returned (.bool true) ∧ Below w.heap.size w w' := by
  have HE := Lib.hid hE
  clear hE
  go_enter Tryz.func10, Tryz.ntmps10
  go_wp2_with (go_at_call 20; ((with_reducible refine (ex_calls _ HE.out).mono ?_); rintro e w1 ⟨hb, Ad, cd, gr, cr, gb, cb, rfl, f1, f2, f3, f4, f5, f6⟩; have g1 := fun o => cell_below ((Below.refl w1.heap.size w1).alloc (Nat.le_refl _) o) f1; have g2 := fun o => cell_below ((Below.refl w1.heap.size w1).alloc (Nat.le_refl _) o) f2; have g3 := fun o => cell_below ((Below.refl w1.heap.size w1).alloc (Nat.le_refl _) o) f3; have g4 := fun o => cell_below ((Below.refl w1.heap.size w1).alloc (Nat.le_refl _) o) f4; have g5 := fun o => cell_below ((Below.refl w1.heap.size w1).alloc (Nat.le_refl _) o) f5; have g6 := fun o => cell_below ((Below.refl w1.heap.size w1).alloc (Nat.le_refl _) o) f6; have HB := Lib.hid hb; clear hb f1 f2 f3 f4 f5 f6))
  go_ret
  exact ⟨rfl, HB.out.alloc HB.out.size _⟩
end Go.Proofs.YtminbdcabacfbaaGreatDoor.V

namespace Go.Proofs.YtminbdcabacfbaaGreatDoor.V
set_option linter.unusedVariables false
set_option linter.unusedSimpArgs false
open Go.RowKit

theorem someP_most {α : Type} {one : List TP → Par α} {N : Nat} : ∀ (m : Nat) (r : List TP) (xs : List α) (r2 : List TP), someP one N m r = .ok xs r2 → xs.length ≤ m + 1 := by
  intro m
  induction m with
  | zero => intro r xs r2 h; cases h
  | succ m ih =>
    intro r xs r2 h
    unfold someP at h
    split at h
    · cases h
    · split at h
      · split at h
        · cases h
        · rename_i h2
          injection h with h _
          subst h
          have := ih _ _ _ h2
          simp only [List.length_cons]
          omega
      · injection h with h _
        subst h
        simp
theorem atomP_most {N : Nat} {r r2 : List TP} {x : AtomL} (h : atomP N r = .ok x r2) : x.a.length ≤ 7 := by
  unfold atomP at h
  split at h
  · cases h
  · split at h
    · split at h
      · cases h
      · rename_i h2
        have := someP_most _ _ _ _ h2
        unfold markP at h
        split at h
        · injection h with h _
          subst h
          exact this
        · cases h
    · injection h with h _
      subst h
      exact Nat.zero_le _
theorem atomL_most {s : List UInt8} {x : AtomL} (h : atomL s = .ok x) : x.a.length ≤ 7 := by
  unfold atomL at h
  split at h
  · cases h
  · split at h
    · cases h
    · rename_i h2
      injection h with h
      subst h
      exact atomP_most h2
    · cases h

set_option maxRecDepth 100000 in
set_option maxHeartbeats 16000000 in
theorem atoms_calls (s : ByteArray) (w : World) (hs : s.size ≤ 1048576) (hE : ErrW w) :
    Calls Tryz.prog 3 #[.string s] w fun e w' => e = .returned (.bool true) ∧ Below w.heap.size w w' := by
  have HE := Lib.hid hE
  clear hE
  have hs9 : s.size ≤ 9223372036854775807 := by omega
  cases hp : atomL s.data.toList with
  | bad a m =>
    have hmm : ((m : Int) == (m : Int)) = true := by simp
    have haa : ((a : Int) == (a : Int)) = true := by simp
    have HP1 := Lib.hid (fun (W : World) (hE : ErrW W) => (show Calls Tryz.prog 11 #[.string s] W (fun e w' => Below W.heap.size W w' ∧ e = .returned (.tuple #[.agg #[.string ⟨#[]⟩, .slice none 0 0], .int .i64 (a : Int), .int .i64 (m : Int)])) from (patom_calls s W hs9 hE).mono (by rintro e w' ⟨hb, h⟩; rw [hp] at h; exact ⟨hb, h⟩)))
    have HP2 := Lib.hid (fun (W : World) => (show Calls Tryz.prog 12 #[.string s] W (fun e w' => Below W.heap.size W w' ∧ e = .returned (.tuple #[.agg #[.string ⟨#[]⟩, .slice none 0 0], .int .i64 (a : Int), .int .i64 (m : Int)])) from (rAtom_calls s W hs).mono (by rintro e w' ⟨hb, h⟩; rw [hp] at h; exact ⟨hb, h⟩)))
    have HSM := Lib.hid (fun (W : World) => (show Calls Tryz.prog 13 #[.agg #[.string ⟨#[]⟩, .slice none 0 0], .agg #[.string ⟨#[]⟩, .slice none 0 0]] W (fun e w' => e = .returned (.bool true) ∧ Below W.heap.size W w') from rsame_calls [] [] none none 0 0 0 0 0 W rfl (by decide) (World.ownsRow_nil _ _ _ _) (World.ownsRow_nil _ _ _ _)))
    clear hp
    go_enter Tryz.func3, Tryz.ntmps3
    go_wp2_with (first
      | (go_at_call 10; ((with_reducible refine (shown6_calls _ HE.out).mono ?_); rintro e w1 ⟨rfl, hb1⟩; have HB1 := Lib.hid hb1; have HE1 := Lib.hid (HE.out.below hb1); clear hb1))
      | (go_at_call 11; ((with_reducible refine (HP1.out _ HE1.out).mono ?_); rintro e w2 ⟨hb2, rfl⟩; have HB2 := Lib.hid ((HB1.out.trans (hb2.mono HB1.out.size)).alloc (Nat.le_trans HB1.out.size hb2.size) (.cells #[.string ⟨#[]⟩, .slice none 0 0] 25)); have H4 := Lib.hid (IsAt.new (v0 := .string ⟨#[]⟩) (v1 := .slice none 0 0) w2); clear hb2))
      | (go_at_call 12; ((with_reducible refine (HP2.out _).mono ?_); rintro e w3 ⟨hb3, rfl⟩; have HB3 := Lib.hid ((HB2.out.trans (hb3.mono HB2.out.size)).alloc (Nat.le_trans HB2.out.size hb3.size) (.cells #[.string ⟨#[]⟩, .slice none 0 0] 25)); have h4 := (H4.out.below hb3).alloc (.cells #[.string ⟨#[]⟩, .slice none 0 0] 25); have h7 := IsAt.new (v0 := .string ⟨#[]⟩) (v1 := .slice none 0 0) w3; have a0 := h4.c0; have a1 := h4.c1; have b0 := h7.c0; have b1 := h7.c1; clear hb3 h4 h7))
      | (go_at_call 13; ((with_reducible refine (HSM.out _).mono ?_); rintro e w4 ⟨rfl, hb4⟩; have HB4 := Lib.hid (HB3.out.trans (hb4.mono HB3.out.size)); clear hb4)))
    go_ret
    exact ⟨rfl, HB4.out⟩
  | ok x =>
    have h00 : ((0 : Int) == (0 : Int)) = true := rfl
    obtain ⟨n, hn⟩ : ∃ n, n = x.a.length := ⟨_, rfl⟩
    have hn2 : n ≤ 1000000 := by have := atomL_most hp; omega
    have HP1 := Lib.hid (fun (W : World) (hE : ErrW W) => (show Calls Tryz.prog 11 #[.string s] W (fun e w' => Below W.heap.size W w' ∧ ∃ A c, e = .returned (.tuple #[.agg #[.string (bs x.p), .slice A n c], .int .i64 0, .int .i64 0]) ∧ TermsAt W.heap.size w' x.a (.slice A n c)) from (patom_calls s W hs9 hE).mono (by
      rintro e w' ⟨hb, h⟩
      rw [hp] at h
      obtain ⟨v, rfl, ht⟩ := h
      obtain ⟨A, c, rfl⟩ := o_slice ht
      rw [← hn] at ht ⊢
      exact ⟨hb, A, c, rfl, ht⟩)))
    have HP2 := Lib.hid (fun (W : World) => (show Calls Tryz.prog 12 #[.string s] W (fun e w' => Below W.heap.size W w' ∧ ∃ A c, e = .returned (.tuple #[.agg #[.string (bs x.p), .slice A n c], .int .i64 0, .int .i64 0]) ∧ TermsAt W.heap.size w' x.a (.slice A n c)) from (rAtom_calls s W hs).mono (by
      rintro e w' ⟨hb, h⟩
      rw [hp] at h
      obtain ⟨v, rfl, ht⟩ := h
      obtain ⟨A, c, rfl⟩ := o_slice ht
      rw [← hn] at ht ⊢
      exact ⟨hb, A, c, rfl, ht⟩)))
    have HSM := Lib.hid (fun (W : World) (A B : Option Addr) (c d b1 b2 : Nat) (h1 : TermsAt b1 W x.a (.slice A n c)) (h2 : TermsAt b2 W x.a (.slice B n d)) => rsame_calls x.p x.a A B n c d b1 b2 W hn hn2 h1 h2)
    clear hp hn
    go_enter Tryz.func3, Tryz.ntmps3
    go_wp2_with (first
      | (go_at_call 10; ((with_reducible refine (shown6_calls _ HE.out).mono ?_); rintro e w1 ⟨rfl, hb1⟩; have HB1 := Lib.hid hb1; have HE1 := Lib.hid (HE.out.below hb1); clear hb1))
      | (go_at_call 11; ((with_reducible refine (HP1.out _ HE1.out).mono ?_); rintro e w2 ⟨hb2, A2, c2, rfl, ht⟩; have HB2 := Lib.hid ((HB1.out.trans (hb2.mono HB1.out.size)).alloc (Nat.le_trans HB1.out.size hb2.size) (.cells #[.string (bs x.p), .slice A2 n c2] 25)); have H4 := Lib.hid (IsAt.new (v0 := .string (bs x.p)) (v1 := .slice A2 n c2) w2); have HT2 := Lib.hid (ht.below ((Below.refl w2.heap.size w2).alloc (Nat.le_refl _) (.cells #[.string (bs x.p), .slice A2 n c2] 25))); clear hb2 ht))
      | (go_at_call 12; ((with_reducible refine (HP2.out _).mono ?_); rintro e w3 ⟨hb3, A3, c3, rfl, ht⟩; have HB3 := Lib.hid ((HB2.out.trans (hb3.mono HB2.out.size)).alloc (Nat.le_trans HB2.out.size hb3.size) (.cells #[.string (bs x.p), .slice A3 n c3] 25)); have h4 := (H4.out.below hb3).alloc (.cells #[.string (bs x.p), .slice A3 n c3] 25); have h7 := IsAt.new (v0 := .string (bs x.p)) (v1 := .slice A3 n c3) w3; have HT3 := Lib.hid ((HT2.out.below hb3).below ((Below.refl w3.heap.size w3).alloc (Nat.le_refl _) (.cells #[.string (bs x.p), .slice A3 n c3] 25))); have HU3 := Lib.hid (ht.below ((Below.refl w3.heap.size w3).alloc (Nat.le_refl _) (.cells #[.string (bs x.p), .slice A3 n c3] 25))); have a0 := h4.c0; have a1 := h4.c1; have b0 := h7.c0; have b1 := h7.c1; clear hb3 h4 h7 ht))
      | (go_at_call 13; ((with_reducible refine (HSM.out _ _ _ _ _ _ _ HT3.out HU3.out).mono ?_); rintro e w4 ⟨rfl, hb4⟩; have HB4 := Lib.hid (HB3.out.trans (hb4.mono HB3.out.size)); clear hb4)))
    go_ret
    exact ⟨rfl, HB4.out⟩
end Go.Proofs.YtminbdcabacfbaaGreatDoor.V
