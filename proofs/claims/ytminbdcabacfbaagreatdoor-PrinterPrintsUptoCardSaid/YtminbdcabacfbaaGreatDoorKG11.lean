/- printer.Fact: a fact's text. parse.Parse: a text's program. printer.May$1: whether a declaration may be. printer.all of declarations. printer.mayLiteral: whether a literal may be. printer.all of literals. printer.mayRule: whether a rule may be. printer.all of rules. printer.May: whether a program may be. printer.Rule: a rule's text. printer.Program: a program's text. What the parser lays, read; the example of law 07. lambrequinlaw07.shown: the document's example. The printer's contracts, ready for the laws. -/
import Derived.LoopN
import Derived.Test.YtminbdcabacfbaaGreatDoorKG10
namespace Go.Proofs.YtminbdcabacfbaaGreatDoor.V
set_option linter.unusedVariables false
set_option linter.unusedSimpArgs false
open Go.RowKit

/-- A fact's values, as terms. -/
structure ValHere (w : World) (a : Addr) (t : TermL) : Prop where
  v : t.v = false
  x : t.x = []
  c0 : w.cell? a = some (.bool t.s)
  c1 : w.cell? ⟨a.block, a.off + 1, none⟩ = some (.string (bs t.t))
  c2 : w.cell? ⟨a.block, a.off + 2, none⟩ = some (.int .i64 t.n)
theorem ValHere.below {w w' : World} {a : Addr} {t : TermL} (h : ValHere w a t) (hb : Below w.heap.size w w') : ValHere w' a t :=
  ⟨h.v, h.x, cell_below hb h.c0, cell_below hb h.c1, cell_below hb h.c2⟩
def ValsRd (w : World) (A : Option Addr) (L : List TermL) : Prop := ∀ (j : Nat) (t : TermL), L[j]? = some t → ∃ a, A = some a ∧ ValHere w (a.add (j * 3)) t
theorem ValsRd.below {w w' : World} {A : Option Addr} {L : List TermL} (h : ValsRd w A L) (hb : Below w.heap.size w w') : ValsRd w' A L := fun j t hj => by
  obtain ⟨a, h1, h2⟩ := h j t hj
  exact ⟨a, h1, h2.below hb⟩
theorem terms_rd {W : World} {B n c : Nat} {A : Option Addr} {L : List TermL} (h : W.ownsRow B 45 5 (.slice A n c) n (termCells L)) (hn : n = L.length) : TermsRd W A L := by
  intro j t hj
  obtain ⟨g, rfl, hc⟩ := flat_row termC (fun x => rfl) h hn hj
  refine ⟨_, rfl, ?_⟩
  rw [addr_add]
  exact ⟨hc 0 _ (by omega) rfl, hc 1 _ (by omega) rfl, hc 2 _ (by omega) rfl, hc 3 _ (by omega) rfl, hc 4 _ (by omega) rfl⟩
theorem bs_nil : bs [] = ⟨#[]⟩ := rfl

set_option maxRecDepth 100000 in
set_option maxHeartbeats 16000000 in
theorem prFact_calls (A : Option Addr) (n c : Nat) (p : List UInt8) (L : List TermL) (w : World) (hn : n = L.length) (hV : ValsRd w A L) (hok : ∀ t ∈ L, TermOk t) (hn2 : n < 1000000000) (hbig : (atomT ⟨p, L⟩).length ≤ 140737488355328) (hw : TabW w) :
    Calls Tryz.prog 30 #[.agg #[.string (bs p), .slice A n c]] w fun e w' => e = .returned (.string (bs (atomT ⟨p, L⟩))) ∧ Below w.heap.size w w' := by
  have hbl := (Below.refl w.heap.size w).alloc (Nat.le_refl _) (.cells #[.string (bs p), .slice A n c] 53)
  have hnw := heap_alloc_new w (.cells #[.string (bs p), .slice A n c] 53)
  have HBL := Lib.hid hbl
  have HV := Lib.hid (hV.below hbl)
  have HW := Lib.hid (hw.below hbl)
  have HN := Lib.hid hn
  have HNW := Lib.hid hnw
  have hsz : (w.alloc (.cells #[.string (bs p), .slice A n c] 53)).heap.size = w.heap.size + 1 := World.size_alloc _ _
  have HSZ := Lib.hid hsz
  have h0 := IsAt.new (v0 := .string (bs p)) (v1 := .slice none 0 0) (w.alloc (.cells #[.string (bs p), .slice A n c] 53))
  rw [hsz] at h0
  have HA0 := Lib.hid h0
  have HAT := Lib.hid (fun (Ao : Option Addr) (co : Nat) (W : World) (h : TermsRd W Ao L) (hw : TabW W) => (show Calls Tryz.prog 26 #[.agg #[.string (bs p), .slice Ao n co]] W (fun e w' => e = .returned (.string (bs (atomT ⟨p, L⟩))) ∧ Below W.heap.size W w') from prAtom_calls Ao n co ⟨p, L⟩ W hn h ⟨by rw [hn] at hn2; exact hn2, hok⟩ hbig hw))
  have HBB := Lib.hid (show Below (w.heap.size + 1) (w.alloc (.cells #[.string (bs p), .slice A n c] 53)) ((w.alloc (.cells #[.string (bs p), .slice A n c] 53)).alloc (.cells #[.string (bs p), .slice none 0 0] 25)) from (Below.refl _ _).alloc (by rw [hsz]; exact Nat.le_refl _) _)
  clear hbl hV hw hok hn hbig h0 hsz
  have d0 := cell_of_row _ _ 0 _ _ _ hnw
  have d1 := cell_of_row _ _ 1 _ _ _ hnw
  clear hnw
  go_enter Tryz.func30, Tryz.ntmps30
  go_wp2_with fail
  go_loopw [12] (fun i wr => ∃ (k : Nat) (Ao : Option Addr) (co : Nat), k ≤ n ∧ i = .int .i64 (k : Int) ∧ IsAt (w.heap.size + 1) (.string (bs p)) (.slice Ao k co) wr ∧ wr.ownsRow (w.heap.size + 2) 45 5 (.slice Ao k co) k (termCells (L.take k)) ∧ Below (w.heap.size + 1) (w.alloc (.cells #[.string (bs p), .slice A n c] 53)) wr ∧ w.heap.size + 2 ≤ wr.heap.size) (fun i _ => n + 1 - (intOf i).toNat)
  case atStart => exact ⟨0, none, 0, Nat.zero_le _, rfl, HA0.out, World.ownsRow_nil _ _ _ _, HBB.out, by simp⟩
  case round =>
    obtain ⟨k, Ao, co, hk, rfl, hat, how, hb, hsr⟩ := hrel
    have hb' : Below (w.alloc (.cells #[.string (bs p), .slice A n c] 53)).heap.size (w.alloc (.cells #[.string (bs p), .slice A n c] 53)) wr := by rw [HSZ.out]; exact hb
    have HAR := Lib.hid hat
    have HOW := Lib.hid how
    have HB := Lib.hid hb
    have HSR := Lib.hid hsr

    by_cases hlt : k < n
    · have hd : decide ((k : Int) < (n : Int)) = true := decide_eq_true (by omega)
      obtain ⟨t, hx⟩ : ∃ t, L[k]? = some t := ⟨_, List.getElem?_eq_getElem (by rw [← HN.out]; exact hlt)⟩
      obtain ⟨a, rfl, hh⟩ := HV.out k t hx
      have hh2 := hh.below hb'
      obtain ⟨tv, tx, ts, ty, tn⟩ := t
      obtain ⟨e1, e2, c0, c1, c2⟩ := hh2
      dsimp only at e1 e2 c0 c1 c2
      subst e1
      subst e2
      have HSN := Lib.hid (show termCells (L.take (k + 1)) = termCells (L.take k) ++ [.bool false, .string ⟨#[]⟩, .bool ts, .string (bs ty), .int .i64 tn] by
        rw [List.take_add_one, hx]
        simp [termCells, termC, bs_nil])
      have hbx := (Below.refl wr.heap.size wr).alloc (Nat.le_refl _) (.cells #[.bool ts, .string (bs ty), .int .i64 tn] 43)
      have HBX := Lib.hid hbx
      have HAX := Lib.hid (hat.below hbx)
      have HOX := Lib.hid (o_kb how hbx)
      have q0 := HAX.out.c0
      have q1 := HAX.out.c1
      clear hb hb' hh hx hat how hbx hsr
      go_wp2_with (refine o_app (W := wr.alloc (.cells #[.bool ts, .string (bs ty), .int .i64 tn] 43)) rfl (.tmp 17) (.tmp 20) 23 45 rfl (.agg #[.bool false, .string ⟨#[]⟩, .bool false, .string ⟨#[]⟩, .int .i64 0]) 5 56 Tryz.underlying23 trm_info rfl (by decide) (by decide) #[.bool false, .string ⟨#[]⟩, .bool ts, .string (bs ty), .int .i64 tn] rfl (by intro u hu; simp at hu; rcases hu with rfl | rfl | rfl | rfl | rfl <;> rfl) (.slice Ao k co) k (termCells (L.take k)) (by rfl) HOX.out (by rw [World.size_alloc]; rfl) (by omega) (by rw [World.size_alloc]; exact Nat.le_succ_of_le HSR.out) ?_; intro A3 c3 w3 how3 hg3; have HA3 := Lib.hid (HAX.out.grown hg3 (fun e => by have := o_from HOX.out _ e.symm; omega)); have r0 := HA3.out.c0; have r1 := HA3.out.c1; have g0 := HA3.out.fr 0; have g1 := HA3.out.fr 1; have HOW3 := Lib.hid how3; have HG3 := Lib.hid (show wr.grownBy w3 (Value.ownBlock (.slice Ao k co)) from grown_trans (World.grownBy_alloc wr _ _) hg3); clear how3 hg3)
      go_roundw
      case rel =>
        refine ⟨k + 1, A3, c3, hlt, by simp, HA3.out.set1 _, ?_, ?_, ?_⟩
        · rw [HSN.out]
          exact o_keep HOW3.out (grown_set (World.grownBy.refl _ _) 1 _) (by omega)
        · refine Below.setCell (p := ⟨w.heap.size + 1, 1, none⟩) (HB.out.grown HG3.out (by have := HSR.out; omega) (fun k hk => by have := o_from HOW.out k hk; omega)) (Nat.le_refl _) _
        · have h1 := HSR.out
          have h2 := HG3.out.size
          simp
          omega
      case measure => simp [intOf]; omega
    · have hkn : n = k := by omega
      subst hkn
      have hd : decide ((n : Int) < (n : Int)) = false := decide_eq_false (by omega)
      have hall : L.take n = L := List.take_of_length_le (by rw [← HN.out]; exact Nat.le_refl _)
      rw [hall] at how
      have HTR := Lib.hid (terms_rd how HN.out)
      have HWr := Lib.hid (HW.out.below hb')
      have q0 := HAR.out.c0
      have q1 := HAR.out.c1
      clear hb hb' hlt hk hall hsr hat how
      go_wp2_with (go_at_call 26; ((with_reducible refine (HAT.out _ _ _ HTR.out HWr.out).mono ?_); rintro e w2 ⟨rfl, hb2⟩; have HB2 := Lib.hid (HB.out.trans (hb2.mono (Nat.le_trans (Nat.le_succ _) HSR.out))); clear hb2))
      go_ret
      exact ⟨rfl, HBL.out.trans (HB2.out.mono (Nat.le_succ _))⟩
end Go.Proofs.YtminbdcabacfbaaGreatDoor.V

namespace Go.Proofs.YtminbdcabacfbaaGreatDoor.V
set_option linter.unusedVariables false
set_option linter.unusedSimpArgs false
open Go.RowKit

theorem RulesAt.base {B B' : Nat} {W : World} {l : List RuleL} {v : Value} (h : RulesAt B W l v) (hB : B' ≤ B) : RulesAt B' W l v := by
  obtain ⟨qs, h1, h2, h3⟩ := h
  exact ⟨qs, h1, o_base h2 hB, fun q hq => ⟨(h3 q hq).1.base hB, (h3 q hq).2.base hB⟩⟩
theorem pokq {P : Nat} {bad : Int} (v : Bool) (w : World) (h : w.cell? ⟨P, 4, none⟩ = some (.int .i64 bad)) (hv : (bad == 0) = v) :
    Calls Tryz.prog 33 #[.pointer (some ⟨P, 0, none⟩)] w fun e w' => e = .returned (.bool v) ∧ w' = w := by
  cases v
  all_goals
    go_enter Tryz.func33, Tryz.ntmps33
    go_wp2
    go_ret
    exact ⟨rfl, rfl⟩
theorem clauseM_few {N : Nat} {ds ds' : List DeclL} {rs rs' : List RuleL} {r r1 : List TP} (h : clauseM N ds rs r = .ok (ds', rs') r1) (hd : ds.length ≤ 400) (hr : rs.length ≤ 400) : ds'.length ≤ 400 ∧ rs'.length ≤ 400 ∧ r1.length < r.length := by
  unfold clauseM at h
  split at h
  · split at h
    · simp at h
    · rename_i h4
      cases hp : declP N r with
      | bad a e => rw [hp] at h; simp [Par.map] at h
      | ok d r2 =>
        rw [hp] at h
        simp only [Par.map, Par.ok.injEq, Prod.mk.injEq] at h
        have := declP_lt hp
        have h4' : ¬ ds.length = 400 := by simpa using h4
        rw [← h.1.1, ← h.1.2, ← h.2]
        simp
        omega
  · split at h
    · simp at h
    · rename_i h4
      cases hp : ruleP N r with
      | bad a e => rw [hp] at h; simp [Par.map] at h
      | ok d r2 =>
        rw [hp] at h
        simp only [Par.map, Par.ok.injEq, Prod.mk.injEq] at h
        have := ruleP_lt hp
        have h4' : ¬ rs.length = 400 := by simpa using h4
        rw [← h.1.1, ← h.1.2, ← h.2]
        simp
        omega
/-- How much there is to do. -/
def todo (P n : Nat) (w : World) : Nat := match w.cell? ⟨P, 4, none⟩ with
  | some (.int _ 0) => (match w.cell? ⟨P, 1, none⟩ with
    | some v => n + 1 - (intOf v).toNat
    | none => 0)
  | _ => 0
theorem todo_ok {P N nx : Nat} {L : List TP} {pl : Int} {A : Option Addr} {c : Nat} {w : World} (h : PS P L N nx pl 0 A c w) : todo P L.length w = L.length + 1 - nx := by
  unfold todo
  rw [h.c4, h.c1]
  simp [intOf]
theorem todo_bad {P N nx : Nat} {L : List TP} {pl bad : Int} {A : Option Addr} {c n : Nat} {w : World} (h : PS P L N nx pl bad A c w) (hb : bad ≠ 0) : todo P n w = 0 := by
  unfold todo
  rw [h.c4]
  split
  · rename_i e
    injection e with e
    injection e with _ e
    exact absurd e hb
  · rfl

/-- What Parse hands back. -/
def ParseIs (s : ByteArray) (w : World) (e : Ending) (w' : World) : Prop :=
  Below w.heap.size w w' ∧ match parseL s.data.toList with
    | .bad a n => e = .returned (.tuple #[.agg #[.slice none 0 0, .slice none 0 0], .int .i64 (a : Int), .int .i64 (n : Int)])
    | .ok g => ∃ vd vr, e = .returned (.tuple #[.agg #[vd, vr], .int .i64 0, .int .i64 0]) ∧ DeclsAt w.heap.size w' g.1 vd ∧ RulesAt w.heap.size w' g.2 vr ∧ g.1.length ≤ 400 ∧ g.2.length ≤ 400

set_option maxRecDepth 100000 in
set_option maxHeartbeats 16000000 in
theorem parse_calls (s : ByteArray) (w : World) (hs : s.size ≤ 9223372036854775807) (hE : ErrW w) :
    Calls Tryz.prog 20 #[.string s] w (ParseIs s w) := by
  have HE := Lib.hid (hE.below ((Below.refl w.heap.size w).alloc (Nat.le_refl _) (.cells #[.slice none 0 0, .slice none 0 0] 36)))
  have HR0 := Lib.hid (heap_alloc_new w (.cells #[.slice none 0 0, .slice none 0 0] 36))
  clear hE
  cases ho : scanL s.data.toList with
  | bad a n =>
    have HO := Lib.hid ho
    have HF := Lib.hid (show parseL s.data.toList = .bad a n by unfold parseL; rw [ho])
    clear ho
    go_enter Tryz.func20, Tryz.ntmps20
    go_wp2_with (go_at_call 32; ((with_reducible refine (parsing_calls s _ hs HE.out).mono ?_); rintro e w2 ⟨P, rfl, hP, hb, hsc⟩; rw [HO.out] at hsc; obtain ⟨hn, hp⟩ := hsc; have HN := Lib.hid hn; have hb3 := (Below.refl w2.heap.size w2).alloc (Nat.le_refl _) (.cells #[.slice none 0 0, .slice none 0 0] 36); have hp3 := (hb3.block P (Array.getElem?_eq_some_iff.1 hp).1).trans hp; have hr3 := (hb3.block w.heap.size (Nat.lt_of_lt_of_le (by simp) hb.size)).trans ((hb.block w.heap.size (by simp)).trans HR0.out); have c0 := cell_of_row _ P 0 _ _ _ hp3; have c1 := cell_of_row _ P 1 _ _ _ hp3; have c3 := cell_of_row _ P 3 _ _ _ hp3; have c4 := cell_of_row _ P 4 _ _ _ hp3; have z0 := cell_of_row _ w.heap.size 0 _ _ _ hr3; have z1 := cell_of_row _ w.heap.size 1 _ _ _ hr3; have y0 := frozen_of_row _ w.heap.size 0 _ _ hr3; have y1 := frozen_of_row _ w.heap.size 1 _ _ hr3; have HB := Lib.hid hb; have HPP := Lib.hid hp3; have HRR := Lib.hid hr3; clear hn hp hb hb3 hp3 hr3))
    have HBB := Lib.hid (show ((n : Int) == 0) = false by have := HN.out; simp; omega)
    have C4 := Lib.hid c4
    refine wp_loop_rounds 1 ?_
    rw [rounds_succ]
    go_wp2_with fail
    go_quiet (first | (go_at_call 33; refine Calls.quiet_of_same (pokq false _ (by exact C4.out) HBB.out)))
    generalize hW : World.drewN _ _ = W3
    have d1 : W3.cell? ⟨P, 3, none⟩ = some (.int .i64 (a : Int)) := by rw [← hW]; exact c3
    have d2 : W3.cell? ⟨P, 4, none⟩ = some (.int .i64 (n : Int)) := by rw [← hW]; exact c4
    have x0 : W3.cell? ⟨w.heap.size, 0, none⟩ = some (.slice none 0 0) := by rw [← hW]; exact z0
    have x1 : W3.cell? ⟨w.heap.size, 1, none⟩ = some (.slice none 0 0) := by rw [← hW]; exact z1
    have x2 : W3.frozen? ⟨w.heap.size, 0, none⟩ = false := by rw [← hW]; exact y0
    have x3 : W3.frozen? ⟨w.heap.size, 1, none⟩ = false := by rw [← hW]; exact y1
    have HRR3 := Lib.hid (show W3.heap[w.heap.size]? = some (.cells #[.slice none 0 0, .slice none 0 0] 36 (0, 0)) by rw [← hW]; exact HRR.out)
    have HB3 := Lib.hid (show Below w.heap.size w W3 by rw [← hW]; exact below_drewN' ((((Below.refl w.heap.size w).alloc (Nat.le_refl _) _).trans (HB.out.mono (by simp))).alloc (by have := HB.out.size; simp at this; omega) _) _)
    have D2 := Lib.hid d2
    clear hW c0 c1 c3 c4 z0 z1 y0 y1
    go_wp2_with (go_at_call 33; ((with_reducible refine (pokq false _ D2.out HBB.out).mono ?_); rintro e w' ⟨rfl, hw⟩; rw [hw]; clear hw))
    go_region
    go_wp2_with fail
    have hset := set_at (i := 1) (cs' := #[.slice none 0 0, .slice none 0 0]) (set_at (i := 0) (cs' := #[.slice none 0 0, .slice none 0 0]) HRR3.out (.slice none 0 0) rfl) (.slice none 0 0) rfl
    have q0 := cell_of_row _ _ 0 _ _ _ hset
    have q1 := cell_of_row _ _ 1 _ _ _ hset
    refine bodyPost_ret (v := .tuple #[.agg #[.slice none 0 0, .slice none 0 0], .int .i64 (a : Int), .int .i64 (n : Int)]) (by simp [results, Tryz.results20, go_sem, q0, q1]) rfl ⟨((HB3.out.setCell (Nat.le_refl _) _).setCell (Nat.le_refl _) _).drew, ?_⟩
    rw [HF.out]
  | ok l =>
    have HO := Lib.hid ho
    have HMAX := Lib.hid (scanL_max ho)
    have HF := Lib.hid (show parseL s.data.toList = match progT s.size [] [] l with | .bad a e => .bad a e | .ok g _ => .ok g by
      unfold parseL progT
      rw [ho]
      simp only [Array.length_toList, ByteArray.size_data]
      rfl)
    clear ho
    go_enter Tryz.func20, Tryz.ntmps20
    go_wp2_with (go_at_call 32; ((with_reducible refine (parsing_calls s _ hs HE.out).mono ?_); rintro e w2 ⟨P, rfl, hP, hb, hsc⟩; rw [HO.out] at hsc; obtain ⟨A, c, hp⟩ := hsc; have HPP := Lib.hid hP; have HB := Lib.hid hb; have HS2 := Lib.hid hp; clear hP hb hp))
    have hsz : w.heap.size + 1 ≤ w2.heap.size := by have := HB.out.size; simpa using this
    have hPlt := HS2.out.lt
    have hPge : w.heap.size + 1 ≤ P := by have := HPP.out; simpa using this
    have HSZ := Lib.hid hsz
    have HPL := Lib.hid hPlt
    have HPG := Lib.hid hPge
    clear hsz hPlt hPge
    go_loopw [] (fun wr => ∃ ds rs Ad Ar cd cr, GAt (w2.heap.size + 1) w2.heap.size wr ds rs Ad Ar cd cr ∧ Below P w2 wr ∧ w2.heap.size + 1 ≤ wr.heap.size ∧ ((ds.length ≤ 400 ∧ rs.length ≤ 400 ∧ ∃ r, PO P l s.size A c r wr ∧ progT s.size [] [] l = progT s.size ds rs r) ∨ (∃ a e, PB P l s.size A c a e 66000 wr ∧ progT s.size [] [] l = .bad a e))) (fun wr => todo P l.length wr)
    case atStart =>
      refine ⟨[], [], none, none, 0, 0, ⟨heap_alloc_new w2 _, World.ownsRow_nil _ _ _ _, [], rfl, World.ownsRow_nil _ _ _ _, fun q hq => by cases hq⟩, (Below.refl P w2).alloc (Nat.le_of_lt HPL.out) _, by simp, .inl ⟨Nat.zero_le _, Nat.zero_le _, l, ⟨0, Nat.zero_le _, rfl, HS2.out.below ((Below.refl _ _).alloc (Nat.le_refl _) _)⟩, rfl⟩⟩
    case round =>
      obtain ⟨ds, rs, Ad, Ar, cd, cr, hga, hbel, hsize, hst⟩ := hrel
      have HGA := Lib.hid hga
      have HBE := Lib.hid hbel
      have HSI := Lib.hid hsize
      have hr0 := (hbel.block w.heap.size (by have := HPG.out; omega)).trans ((HB.out.block w.heap.size (by simp)).trans HR0.out)
      have HRR := Lib.hid hr0
      clear hga hbel hsize hr0
      rcases hst with ⟨hd4, hr4, r, ⟨nx, hnx, rfl, hS⟩, heq⟩ | ⟨a, e, ⟨he0, nx, hnx, hS⟩, heq⟩
      · have HS := Lib.hid hS
        have HEQ := Lib.hid heq
        have HNX := Lib.hid hnx
        have HD4 := Lib.hid hd4
        have HR4 := Lib.hid hr4
        have c0 := hS.c0
        have c1 := hS.c1
        have c4 := hS.c4
        have C4 := Lib.hid c4
        clear hS heq hd4 hr4
        by_cases hlt : nx < l.length
        · have hd : decide ((nx : Int) < (l.length : Int)) = true := decide_eq_true (by omega)
          have HLT := Lib.hid hlt
          go_wp2_with fail
          go_quiet (first | (go_at_call 33; refine Calls.quiet_of_same (pokq true _ (by exact C4.out) rfl)))
          generalize hW : World.drewN _ _ = W3
          have HBW := Lib.hid (show Below wr.heap.size wr W3 by rw [← hW]; exact below_drewN' (Below.refl _ _) _)
          clear hW c0 c1 c4
          have hgw := HGA.out.kept (grown_below HBW.out (some P)) (by have := HPL.out; omega) (by have := HPL.out; omega)
          have HGW := Lib.hid hgw
          clear hgw
          go_wp2_with (go_at_call 52; ((with_reducible refine (clause_calls (B := P) (base := w2.heap.size + 1) (r := l.drop nx) _ (po_mk HNX.out (HS.out.below HBW.out)) HMAX.out HGW.out (by have := HPL.out; omega) (Nat.lt_succ_self _) (by have := HPL.out; omega) (Nat.le_trans HSI.out HBW.out.size) (Nat.le_refl _) (Nat.le_of_lt HPL.out) HD4.out HR4.out).mono ?_); rintro e w4 ⟨rfl, hb4, ds', rs', Ad', Ar', cd', cr', hga4, hgot⟩; have HB4 := Lib.hid hb4; have HGA4 := Lib.hid hga4; have HGOT := Lib.hid hgot; clear hb4 hga4 hgot))
          obtain ⟨x0, r0, hcons⟩ : ∃ x0 r0, l.drop nx = x0 :: r0 := by
            cases hd : l.drop nx with
            | nil => have := congrArg List.length hd; simp at this; omega
            | cons x0 r0 => exact ⟨x0, r0, rfl⟩
          have hstep := progT_step s.size ds rs x0 r0
          have hgot := HGOT.out
          rw [hcons] at hgot
          have heq := HEQ.out
          rw [hcons] at heq
          have hbel4 : Below P w2 w4 := (HBE.out.trans (HBW.out.mono (by have := HBE.out.size; have := HPL.out; omega))).trans HB4.out
          have hsize4 : w2.heap.size + 1 ≤ w4.heap.size := Nat.le_trans HSI.out (Nat.le_trans HBW.out.size HB4.out.size)
          have htodo := todo_ok HS.out
          cases hc : clauseM s.size ds rs (x0 :: r0) with
          | bad a e =>
            rw [hc] at hgot hstep
            go_roundw
            case rel => exact ⟨ds', rs', Ad', Ar', cd', cr', HGA4.out, hbel4, hsize4, .inr ⟨a, e, hgot, by rw [heq, hstep]⟩⟩
            case measure =>
              obtain ⟨he0, nx4, hnx4, hS4⟩ := hgot
              rw [todo_bad hS4 (by omega), htodo]
              have := HNX.out
              omega
          | ok g r1 =>
            rw [hc] at hgot hstep
            obtain ⟨hg, nx4, hnx4, hr4, hS4⟩ := hgot
            subst hg
            have hf := clauseM_few hc HD4.out HR4.out
            go_roundw
            case rel => exact ⟨ds', rs', Ad', Ar', cd', cr', HGA4.out, hbel4, hsize4, .inl ⟨hf.1, hf.2.1, r1, ⟨nx4, hnx4, hr4, hS4⟩, by rw [heq, hstep]⟩⟩
            case measure =>
              rw [todo_ok hS4, htodo]
              have h1 := hf.2.2
              rw [← hcons, ← hr4] at h1
              simp at h1
              omega
        · have hd : decide ((nx : Int) < (l.length : Int)) = false := decide_eq_false (by omega)
          have HQ := Lib.hid (show parseL s.data.toList = .ok (ds, rs) by
            rw [HF.out, HEQ.out, List.drop_eq_nil_of_le (by omega)]
            rfl)
          go_wp2_with fail
          go_quiet (first | (go_at_call 33; refine Calls.quiet_of_same (pokq true _ (by exact C4.out) rfl)))
          generalize hW : World.drewN _ _ = W3
          have HBW := Lib.hid (show Below wr.heap.size wr W3 by rw [← hW]; exact below_drewN' (Below.refl _ _) _)
          have D4 := Lib.hid (cell_below HBW.out C4.out)
          have hga3 := HGA.out.kept (grown_below HBW.out (some P)) (by have := HPL.out; omega) (by have := HPL.out; omega)
          have hrr3 := (HBW.out.block w.heap.size (Array.getElem?_eq_some_iff.1 HRR.out).1).trans HRR.out
          have g0 := cell_of_row _ _ 0 _ _ _ hga3.b; have g1 := cell_of_row _ _ 1 _ _ _ hga3.b
          have z0 := cell_of_row _ _ 0 _ _ _ hrr3; have z1 := cell_of_row _ _ 1 _ _ _ hrr3
          have y0 := frozen_of_row _ _ 0 _ _ hrr3; have y1 := frozen_of_row _ _ 1 _ _ hrr3
          have HGA3 := Lib.hid hga3
          have HRR3 := Lib.hid hrr3
          clear hW c0 c1 c4 hga3 hrr3
          go_wp2_with (go_at_call 33; ((with_reducible refine (pokq true _ D4.out rfl).mono ?_); rintro e w' ⟨rfl, hw⟩; rw [hw]; clear hw))
          have hset := set_at (i := 1) (cs' := #[.slice Ad ds.length cd, .slice Ar rs.length cr]) (set_at (i := 0) (cs' := #[.slice Ad ds.length cd, .slice none 0 0]) HRR3.out (.slice Ad ds.length cd) rfl) (.slice Ar rs.length cr) rfl
          have q0 := cell_of_row _ _ 0 _ _ _ hset
          have q1 := cell_of_row _ _ 1 _ _ _ hset
          have hgS := grown_set (grown_set (World.grownBy.refl W3 (some w.heap.size)) 0 (.slice Ad ds.length cd)) 1 (.slice Ar rs.length cr)
          have hB3 : Below w.heap.size w W3 := (((Below.refl w.heap.size w).alloc (Nat.le_refl _) (.cells #[.slice none 0 0, .slice none 0 0] 36)).trans (HB.out.mono (by simp))).trans ((HBE.out.mono (by have := HPG.out; omega)).trans (HBW.out.mono (by have := HSI.out; have := HSZ.out; omega)))
          refine bodyPost_ret (v := .tuple #[.agg #[.slice Ad ds.length cd, .slice Ar rs.length cr], .int .i64 0, .int .i64 0]) (by simp [results, Tryz.results20, go_sem, q0, q1]) rfl ⟨(hB3.setCell (Nat.le_refl _) _).setCell (Nat.le_refl _) _, ?_⟩
          rw [HQ.out]
          have hlow : ∀ j, some w.heap.size = some j → j < w2.heap.size + 1 := fun j hj => by cases hj; have := HSZ.out; omega
          refine ⟨_, _, rfl, ?_, ?_, HD4.out, HR4.out⟩
          · exact o_base (HGA3.out.d.kept hgS (fun j hj => .inl (hlow j hj))) (by have := HSZ.out; omega)
          · exact (HGA3.out.r.kept hgS (fun j hj => .inl (hlow j hj))).base (by have := HSZ.out; omega)
      · have HS := Lib.hid hS
        have HBB := Lib.hid (show ((e : Int) == 0) = false by simp; omega)
        have HQ := Lib.hid (show parseL s.data.toList = .bad a e by rw [HF.out, heq])
        have c3 := hS.c3
        have c4 := hS.c4
        have C3 := Lib.hid c3
        have C4 := Lib.hid c4
        clear hS heq
        go_wp2_with fail
        go_quiet (first | (go_at_call 33; refine Calls.quiet_of_same (pokq false _ (by exact C4.out) HBB.out)))
        generalize hW : World.drewN _ _ = W3
        have HBW := Lib.hid (show Below wr.heap.size wr W3 by rw [← hW]; exact below_drewN' (Below.refl _ _) _)
        have d3 := cell_below HBW.out C3.out
        have d4 := cell_below HBW.out C4.out
        have D4 := Lib.hid d4
        have hrr3 := (HBW.out.block w.heap.size (Array.getElem?_eq_some_iff.1 HRR.out).1).trans HRR.out
        have z0 := cell_of_row _ _ 0 _ _ _ hrr3; have z1 := cell_of_row _ _ 1 _ _ _ hrr3
        have y0 := frozen_of_row _ _ 0 _ _ hrr3; have y1 := frozen_of_row _ _ 1 _ _ hrr3
        have HRR3 := Lib.hid hrr3
        clear hW c3 c4 hrr3
        go_wp2_with (go_at_call 33; ((with_reducible refine (pokq false _ D4.out HBB.out).mono ?_); rintro e w' ⟨rfl, hw⟩; rw [hw]; clear hw))
        go_region
        go_wp2_with fail
        have hset := set_at (i := 1) (cs' := #[.slice none 0 0, .slice none 0 0]) (set_at (i := 0) (cs' := #[.slice none 0 0, .slice none 0 0]) HRR3.out (.slice none 0 0) rfl) (.slice none 0 0) rfl
        have q0 := cell_of_row _ _ 0 _ _ _ hset
        have q1 := cell_of_row _ _ 1 _ _ _ hset
        have hB3 : Below w.heap.size w W3 := (((Below.refl w.heap.size w).alloc (Nat.le_refl _) (.cells #[.slice none 0 0, .slice none 0 0] 36)).trans (HB.out.mono (by simp))).trans ((HBE.out.mono (by have := HPG.out; omega)).trans (HBW.out.mono (by have := HSI.out; have := HSZ.out; omega)))
        refine bodyPost_ret (v := .tuple #[.agg #[.slice none 0 0, .slice none 0 0], .int .i64 (a : Int), .int .i64 (e : Int)]) (by simp [results, Tryz.results20, go_sem, q0, q1]) rfl ⟨((hB3.setCell (Nat.le_refl _) _).setCell (Nat.le_refl _) _).drew, ?_⟩
        rw [HQ.out]
end Go.Proofs.YtminbdcabacfbaaGreatDoor.V

namespace Go.Proofs.YtminbdcabacfbaaGreatDoor.V
set_option linter.unusedVariables false
set_option linter.unusedSimpArgs false
open Go.RowKit

set_option maxRecDepth 100000 in
set_option maxHeartbeats 4000000 in
theorem prMayD_calls (d : DeclL) (w : World) (hs : DeclSz d) :
    Calls Tryz.prog 44 #[.agg #[.string (bs d.p), .int .i64 d.n]] w fun e w' => e = .returned (.bool (mayD d)) ∧ Below w.heap.size w w' := by
  have hbl := (Below.refl w.heap.size w).alloc (Nat.le_refl _) (.cells #[.string (bs d.p), .int .i64 d.n] 86)
  have hnw := heap_alloc_new w (.cells #[.string (bs d.p), .int .i64 d.n] 86)
  have HB0 := Lib.hid hbl
  have HNW := Lib.hid hnw
  have d0 := cell_of_row _ _ 0 _ _ _ hnw
  have HNM := Lib.hid (fun (W : World) => prName_calls d.p W hs)
  clear hbl hnw hs
  cases hv : nameL d.p with
  | false =>
    have HV := Lib.hid hv
    have HE := Lib.hid (show mayD d = false by unfold mayD; rw [hv]; rfl)
    clear hv
    go_enter Tryz.func44, Tryz.ntmps44
    go_wp2_with (go_at_call 45; ((with_reducible refine (HNM.out _).mono ?_); rw [HV.out]; rintro e w2 ⟨rfl, hb2⟩; have HB2 := Lib.hid (HB0.out.trans (hb2.mono HB0.out.size)); clear hb2))
    go_ret
    exact ⟨by rw [HE.out]; rfl, HB2.out⟩
  | true =>
    have HV := Lib.hid hv
    have HE := Lib.hid (show mayD d = (decide (0 ≤ d.n) && decide (d.n ≤ 6)) by unfold mayD; rw [hv]; rfl)
    clear hv
    go_enter Tryz.func44, Tryz.ntmps44
    go_wp2_with (go_at_call 45; ((with_reducible refine (HNM.out _).mono ?_); rw [HV.out]; rintro e w2 ⟨rfl, hb2⟩; have HB2 := Lib.hid (HB0.out.trans (hb2.mono HB0.out.size)); have e1 := cell_below hb2 (cell_of_row _ _ 1 _ _ _ HNW.out); clear hb2))
    all_goals
      go_ret
      refine ⟨?_, HB2.out⟩
      rw [HE.out]
      first | rfl | (simp_all; done) | (simp_all; omega)
end Go.Proofs.YtminbdcabacfbaaGreatDoor.V

namespace Go.Proofs.YtminbdcabacfbaaGreatDoor.V
set_option linter.unusedVariables false
set_option linter.unusedSimpArgs false
open Go.RowKit

set_option maxRecDepth 100000 in
set_option maxHeartbeats 4000000 in
theorem allCD_calls  (t : DeclL) (r : Nat) (w : World) (hr : w.cell? ⟨r, 0, none⟩ = some (.func (.func 44) #[] #[])) (hs : DeclSz t) :
    Calls Tryz.prog 78 #[.agg #[.string (bs t.p), .int .i64 t.n], .pointer (some ⟨r, 0, none⟩)] w fun e w' => e = .returned (.bool (!(mayD t))) ∧ Below w.heap.size w w' := by
  have hbl := (Below.refl w.heap.size w).alloc (Nat.le_refl _) (.cells #[.string (bs t.p), .int .i64 t.n] 86)
  have hnw := heap_alloc_new w (.cells #[.string (bs t.p), .int .i64 t.n] 86)
  have HB0 := Lib.hid hbl
  have hr1 := cell_below hbl hr

  have d0 := cell_of_row _ _ 0 _ _ _ hnw
  have d1 := cell_of_row _ _ 1 _ _ _ hnw
  have HF := Lib.hid (fun (W : World) => prMayD_calls t W hs)
  clear hbl hnw hr hs
  go_enter Tryz.func78, Tryz.ntmps78
  go_wp2_with (go_at_call 44; ((with_reducible refine (HF.out _ ).mono ?_); rintro e w2 ⟨rfl, hb2⟩; have HB2 := Lib.hid (HB0.out.trans (hb2.mono HB0.out.size)); clear hb2))
  go_ret
  exact ⟨rfl, HB2.out⟩

set_option maxRecDepth 100000 in
set_option maxHeartbeats 8000000 in
theorem allID_calls (A : Option Addr) (n c r : Nat) (L : List DeclL) (w : World) (hr : w.cell? ⟨r, 0, none⟩ = some (.func (.func 44) #[] #[])) (hn : n = L.length) (hT : DeclsRd w A L) (hok : ∀ t ∈ L, DeclSz t) (hn2 : n < 1000000000) :
    Calls Tryz.prog 108 #[.slice A n c, .func (.func 78) #[] #[.pointer (some ⟨r, 0, none⟩)]] w fun e w' => ∃ k : Int, e = .returned (.int .i64 k) ∧ decide (0 ≤ k) = !(L.all mayD) ∧ Below w.heap.size w w' := by
  have HT := Lib.hid hT
  have HOK := Lib.hid hok
  have HN := Lib.hid hn
  have HR := Lib.hid hr
  clear hT hok hn hr
  go_enter Tryz.func108, Tryz.ntmps108
  go_wp2_with fail
  go_loopw [8] (fun i wr => ∃ k : Nat, k ≤ n ∧ i = .int .i64 (k : Int) ∧ (L.take k).all mayD = true ∧ Below w.heap.size w wr) (fun i _ => n + 1 - (intOf i).toNat)
  case atStart => exact ⟨0, Nat.zero_le _, rfl, rfl, Below.refl _ _⟩
  case round =>
    obtain ⟨k, hk, rfl, hall, hb⟩ := hrel
    have HB := Lib.hid hb
    by_cases hlt : k < n
    · have hd : decide ((k : Int) < (n : Int)) = true := decide_eq_true (by omega)
      obtain ⟨t, hx⟩ : ∃ t, L[k]? = some t := ⟨_, List.getElem?_eq_getElem (by rw [← HN.out]; exact hlt)⟩
      obtain ⟨a, rfl, hh⟩ := HT.out k t hx
      have hh2 := hh.below hb
      have hgt := HOK.out t (List.mem_of_getElem? hx)
      have hsn : (L.take (k + 1)).all mayD = mayD t := by
        rw [List.take_add_one, List.all_append, hall, hx]
        simp
      have hmt : t ∈ L := List.mem_of_getElem? hx
      have HRr := Lib.hid (cell_below hb HR.out)
      have HC := Lib.hid (fun (W : World) (hr : W.cell? ⟨r, 0, none⟩ = some (.func (.func 44) #[] #[])) => allCD_calls t r W hr hgt)
      have d0 := hh2.c0
      have d1 := hh2.c1
      cases hv : mayD t with
      | true =>
        rw [hv] at hsn
        have HV := Lib.hid hv
        have HSN := Lib.hid hsn
        clear hb hh hh2 hgt hx hall hv hsn hmt
        go_wp2_with (go_at_call 78; ((with_reducible refine (HC.out _ HRr.out).mono ?_); rw [HV.out]; rintro e w2 ⟨rfl, hb2⟩; have HB2 := Lib.hid (HB.out.trans (hb2.mono HB.out.size)); clear hb2))
        go_roundw
        case rel => exact ⟨k + 1, hlt, by simp, HSN.out, HB2.out⟩
        case measure => simp [intOf]; omega
      | false =>
        have HV := Lib.hid hv
        have HALL := Lib.hid (show L.all mayD = false by
          rw [List.all_eq_false]
          exact ⟨t, hmt, by rw [hv]; simp⟩)
        clear hb hh hh2 hgt hx hall hv hsn hmt
        go_wp2_with (go_at_call 78; ((with_reducible refine (HC.out _ HRr.out).mono ?_); rw [HV.out]; rintro e w2 ⟨rfl, hb2⟩; have HB2 := Lib.hid (HB.out.trans (hb2.mono HB.out.size)); clear hb2))
        go_ret
        exact ⟨(k : Int), rfl, by rw [HALL.out]; exact decide_eq_true (by omega), HB2.out⟩
    · have hkn : k = n := by omega
      subst hkn
      have hd : decide ((k : Int) < (k : Int)) = false := decide_eq_false (by omega)
      have htk : L.take k = L := List.take_of_length_le (by rw [← HN.out]; exact Nat.le_refl _)
      rw [htk] at hall
      have HALL := Lib.hid hall
      clear hb hlt hk hall htk
      go_wp2_with fail
      go_ret
      exact ⟨-1, rfl, by rw [HALL.out]; decide, HB.out⟩
set_option maxRecDepth 100000 in
set_option maxHeartbeats 4000000 in
theorem allFD_calls (A : Option Addr) (n c r : Nat) (L : List DeclL) (w : World) (hr : w.cell? ⟨r, 0, none⟩ = some (.func (.func 44) #[] #[])) (hn : n = L.length) (hT : DeclsRd w A L) (hok : ∀ t ∈ L, DeclSz t) (hn2 : n < 1000000000) :
    Calls Tryz.prog 77 #[.slice A n c, .func (.func 78) #[] #[.pointer (some ⟨r, 0, none⟩)]] w fun e w' => e = .returned (.bool (!(L.all mayD))) ∧ Below w.heap.size w w' := by
  have HI := Lib.hid (allID_calls A n c r L w hr hn hT hok hn2)
  clear hr hn hT hok
  go_enter Tryz.func77, Tryz.ntmps77
  go_wp2_with (go_at_call 108; ((with_reducible refine HI.out.mono ?_); rintro e w2 ⟨k, rfl, hk, hb2⟩; have HB2 := Lib.hid hb2; have HK := Lib.hid hk; clear hb2 hk))
  go_ret
  exact ⟨by rw [← HK.out]; rfl, HB2.out⟩
set_option maxRecDepth 100000 in
set_option maxHeartbeats 4000000 in
theorem allD_calls (A : Option Addr) (n c : Nat) (L : List DeclL) (w : World) (hn : n = L.length) (hT : DeclsRd w A L) (hok : ∀ t ∈ L, DeclSz t) (hn2 : n < 1000000000) :
    Calls Tryz.prog 46 #[.slice A n c, .func (.func 44) #[] #[]] w fun e w' => e = .returned (.bool (L.all mayD)) ∧ Below w.heap.size w w' := by
  have hbl := (Below.refl w.heap.size w).alloc (Nat.le_refl _) (.cells #[.func (.func 44) #[] #[]] 95)
  have hnw := heap_alloc_new w (.cells #[.func (.func 44) #[] #[]] 95)
  have HB0 := Lib.hid hbl
  have HI := Lib.hid (allFD_calls A n c w.heap.size L _ (cell_of_row _ _ 0 _ _ _ hnw) hn (hT.below hbl) hok hn2)
  clear hbl hnw hn hT hok
  go_enter Tryz.func46, Tryz.ntmps46
  go_wp2_with (go_at_call 77; ((with_reducible refine HI.out.mono ?_); rintro e w2 ⟨rfl, hb2⟩; have HB2 := Lib.hid (HB0.out.trans (hb2.mono HB0.out.size)); clear hb2))
  go_ret
  refine ⟨?_, HB2.out⟩
  simp
end Go.Proofs.YtminbdcabacfbaaGreatDoor.V

namespace Go.Proofs.YtminbdcabacfbaaGreatDoor.V
set_option linter.unusedVariables false
set_option linter.unusedSimpArgs false
open Go.RowKit

theorem opL_data (o : ByteArray) : opL o.toList = (([61] : List UInt8) == o.toList || ([33, 61] : List UInt8) == o.toList || ([60] : List UInt8) == o.toList || ([60, 61] : List UInt8) == o.toList || ([62] : List UInt8) == o.toList || ([62, 61] : List UInt8) == o.toList) := by
  unfold opL
  rw [Bool.beq_comm, Bool.beq_comm (a := o.toList) (b := [33, 61]), Bool.beq_comm (a := o.toList) (b := [60]), Bool.beq_comm (a := o.toList) (b := [60, 61]), Bool.beq_comm (a := o.toList) (b := [62]), Bool.beq_comm (a := o.toList) (b := [62, 61])]
theorem holds_any (o : ByteArray) (s : Bool) (t : ByteArray) (n : Int) (s' : Bool) (t' : ByteArray) (n' : Int) (w : World) :
    Calls Tryz.prog 114 #[.string o, .agg #[.bool s, .string t, .int .i64 n], .agg #[.bool s', .string t', .int .i64 n']] w fun e w' => (∃ b, e = .returned (.tuple #[.bool b, .bool (opL o.toList)])) ∧ Below w.heap.size w w' := by
  have hop := opL_data o
  cases h0 : (([61] : List UInt8) == o.toList) with
  | true => refine (holds_at0 o h0 s t n s' t' n' w _ rfl).mono ?_; rintro e w' ⟨rfl, hb⟩; rw [hop, h0]; exact ⟨⟨_, rfl⟩, hb⟩
  | false =>
    cases h1 : (([33, 61] : List UInt8) == o.toList) with
    | true => refine (holds_at1 o h0 h1 s t n s' t' n' w _ rfl).mono ?_; rintro e w' ⟨rfl, hb⟩; rw [hop, h0, h1]; exact ⟨⟨_, rfl⟩, hb⟩
    | false =>
      cases h2 : (([60] : List UInt8) == o.toList) with
      | true => refine (holds_at2 o h0 h1 h2 s t n s' t' n' w _ rfl).mono ?_; rintro e w' ⟨rfl, hb⟩; rw [hop, h0, h1, h2]; exact ⟨⟨_, rfl⟩, hb⟩
      | false =>
        cases h3 : (([60, 61] : List UInt8) == o.toList) with
        | true => refine (holds_at3 o h0 h1 h2 h3 s t n s' t' n' w _ rfl).mono ?_; rintro e w' ⟨rfl, hb⟩; rw [hop, h0, h1, h2, h3]; exact ⟨⟨_, rfl⟩, hb⟩
        | false =>
          cases h4 : (([62] : List UInt8) == o.toList) with
          | true => refine (holds_at4 o h0 h1 h2 h3 h4 s t n s' t' n' w _ rfl).mono ?_; rintro e w' ⟨rfl, hb⟩; rw [hop, h0, h1, h2, h3, h4]; exact ⟨⟨_, rfl⟩, hb⟩
          | false =>
            cases h5 : (([62, 61] : List UInt8) == o.toList) with
            | true => refine (holds_at5 o h0 h1 h2 h3 h4 h5 s t n s' t' n' w _ rfl).mono ?_; rintro e w' ⟨rfl, hb⟩; rw [hop, h0, h1, h2, h3, h4, h5]; exact ⟨⟨_, rfl⟩, hb⟩
            | false => refine (holds_at6 o h0 h1 h2 h3 h4 h5 s t n s' t' n' w _ rfl).mono ?_; rintro e w' ⟨rfl, hb⟩; rw [hop, h0, h1, h2, h3, h4, h5]; exact ⟨⟨_, rfl⟩, hb⟩

set_option maxRecDepth 100000 in
set_option maxHeartbeats 16000000 in
theorem prMayL_calls (kk : Int) (A : Option Addr) (n c : Nat) (x : LitL) (w : World) (hk : kk.toNat = x.k) (hn : n = x.a.a.length) (hT : TermsRd w A x.a.a) (hs : LitSz x) :
    Calls Tryz.prog 83 #[.agg #[.int .i64 kk, .string (bs x.a.p), .slice A n c, .string (bs x.o), .bool x.l.v, .string (bs x.l.x), .bool x.l.s, .string (bs x.l.t), .int .i64 x.l.n, .bool x.r.v, .string (bs x.r.x), .bool x.r.s, .string (bs x.r.t), .int .i64 x.r.n]] w fun e w' => e = .returned (.bool (mayL x)) ∧ Below w.heap.size w w' := by
  obtain ⟨k, ⟨p, la⟩, o, ⟨lv, lx, ls, ly, ln⟩, ⟨rv, rx, rs, ry, rn⟩⟩ := x
  dsimp only at hn hT hk ⊢
  have hbl := (Below.refl w.heap.size w).alloc (Nat.le_refl _) (.cells #[.int .i64 kk, .string (bs p), .slice A n c, .string (bs o), .bool lv, .string (bs lx), .bool ls, .string (bs ly), .int .i64 ln, .bool rv, .string (bs rx), .bool rs, .string (bs ry), .int .i64 rn] 47)
  have hnw := heap_alloc_new w (.cells #[.int .i64 kk, .string (bs p), .slice A n c, .string (bs o), .bool lv, .string (bs lx), .bool ls, .string (bs ly), .int .i64 ln, .bool rv, .string (bs rx), .bool rs, .string (bs ry), .int .i64 rn] 47)
  have HB0 := Lib.hid hbl
  have HT0 := Lib.hid (hT.below hbl)
  have d0 := cell_of_row _ _ 0 _ _ _ hnw
  have d1 := cell_of_row _ _ 1 _ _ _ hnw
  have d2 := cell_of_row _ _ 2 _ _ _ hnw
  have d3 := cell_of_row _ _ 3 _ _ _ hnw
  have d4 := cell_of_row _ _ 4 _ _ _ hnw
  have d5 := cell_of_row _ _ 5 _ _ _ hnw
  have d6 := cell_of_row _ _ 6 _ _ _ hnw
  have d7 := cell_of_row _ _ 7 _ _ _ hnw
  have d8 := cell_of_row _ _ 8 _ _ _ hnw
  have d9 := cell_of_row _ _ 9 _ _ _ hnw
  have d10 := cell_of_row _ _ 10 _ _ _ hnw
  have d11 := cell_of_row _ _ 11 _ _ _ hnw
  have d12 := cell_of_row _ _ 12 _ _ _ hnw
  have d13 := cell_of_row _ _ 13 _ _ _ hnw
  have HNW := Lib.hid hnw
  have HTL := Lib.hid (fun (W : World) => (show Calls Tryz.prog 111 #[.agg #[.bool lv, .string (bs lx), .bool ls, .string (bs ly), .int .i64 ln]] W (fun e w' => e = .returned (.bool (mayT ⟨lv, lx, ls, ly, ln⟩)) ∧ Below W.heap.size W w') from prMayT_calls ⟨lv, lx, ls, ly, ln⟩ W hs.2.1))
  have HTR := Lib.hid (fun (W : World) => (show Calls Tryz.prog 111 #[.agg #[.bool rv, .string (bs rx), .bool rs, .string (bs ry), .int .i64 rn]] W (fun e w' => e = .returned (.bool (mayT ⟨rv, rx, rs, ry, rn⟩)) ∧ Below W.heap.size W w') from prMayT_calls ⟨rv, rx, rs, ry, rn⟩ W hs.2.2))
  have HAT := Lib.hid (fun (W : World) (h : TermsRd W A la) => (show Calls Tryz.prog 81 #[.agg #[.string (bs p), .slice A n c]] W (fun e w' => e = .returned (.bool (mayA ⟨p, la⟩)) ∧ Below W.heap.size W w') from prMayA_calls A n c ⟨p, la⟩ W hn h hs.1))
  have hnil : (bs []).toList = [] := bs_list []
  clear hbl hnw hT hs
  by_cases h3 : kk = 3
  · subst h3
    have hk3 : k = 3 := hk.symm
    have hE : mayL ⟨k, ⟨p, la⟩, o, ⟨lv, lx, ls, ly, ln⟩, ⟨rv, rx, rs, ry, rn⟩⟩ = (opL o && mayT ⟨lv, lx, ls, ly, ln⟩ && mayT ⟨rv, rx, rs, ry, rn⟩ && (bs p).toList.isEmpty && ((n : Int) == 0)) := by
      unfold mayL
      rw [if_pos hk3, bs_list, show ((n : Int) == 0) = la.isEmpty from by
        rw [hn]
        cases la with
        | nil => rfl
        | cons a b => rfl]
    have HHO := Lib.hid (fun (W : World) => (show Calls Tryz.prog 114 #[.string (bs o), .agg #[.bool ls, .string (bs ly), .int .i64 ln], .agg #[.bool rs, .string (bs ry), .int .i64 rn]] W (fun e w' => (∃ b, e = .returned (.tuple #[.bool b, .bool (opL o)])) ∧ Below W.heap.size W w') from by
      have h := holds_any (bs o) ls (bs ly) ln rs (bs ry) rn W
      rw [bs_list] at h
      exact h))
    clear hk hn
    cases ho : opL o with
    | false =>
      have HO := Lib.hid ho
      rw [show mayL ⟨k, ⟨p, la⟩, o, ⟨lv, lx, ls, ly, ln⟩, ⟨rv, rx, rs, ry, rn⟩⟩ = false from by rw [hE, ho]; rfl]
      clear hE ho hk3 hnil
      go_enter Tryz.func83, Tryz.ntmps83
      go_wp2_with (go_at_call 114; ((with_reducible refine (HHO.out _).mono ?_); rw [HO.out]; rintro e w2 ⟨⟨b, rfl⟩, hb2⟩; have HD2 := Lib.hid (show w2.heap[w.heap.size]? = some (.cells #[.int .i64 3, .string (bs p), .slice A n c, .string (bs o), .bool lv, .string (bs lx), .bool ls, .string (bs ly), .int .i64 ln, .bool rv, .string (bs rx), .bool rs, .string (bs ry), .int .i64 rn] 47 (0, 0)) from (hb2.block w.heap.size (by rw [World.size_alloc]; omega)).trans HNW.out); have HB2 := Lib.hid (HB0.out.trans (hb2.mono HB0.out.size)); have e4 := cell_of_row _ _ 4 _ _ _ HD2.out; have e5 := cell_of_row _ _ 5 _ _ _ HD2.out; have e6 := cell_of_row _ _ 6 _ _ _ HD2.out; have e7 := cell_of_row _ _ 7 _ _ _ HD2.out; have e8 := cell_of_row _ _ 8 _ _ _ HD2.out; clear hb2))
      go_ret
      exact ⟨rfl, HB2.out⟩
    | true =>
      have HO := Lib.hid ho
      cases hv2 : mayT ⟨lv, lx, ls, ly, ln⟩ with
      | false =>
        have HV2 := Lib.hid hv2
        rw [show mayL ⟨k, ⟨p, la⟩, o, ⟨lv, lx, ls, ly, ln⟩, ⟨rv, rx, rs, ry, rn⟩⟩ = false from by rw [hE, ho, hv2]; rfl]
        clear hE ho hk3 hnil hv2
        go_enter Tryz.func83, Tryz.ntmps83
        go_wp2_with (first
          | (go_at_call 114; ((with_reducible refine (HHO.out _).mono ?_); rw [HO.out]; rintro e w2 ⟨⟨b, rfl⟩, hb2⟩; have HD2 := Lib.hid (show w2.heap[w.heap.size]? = some (.cells #[.int .i64 3, .string (bs p), .slice A n c, .string (bs o), .bool lv, .string (bs lx), .bool ls, .string (bs ly), .int .i64 ln, .bool rv, .string (bs rx), .bool rs, .string (bs ry), .int .i64 rn] 47 (0, 0)) from (hb2.block w.heap.size (by rw [World.size_alloc]; omega)).trans HNW.out); have HB2 := Lib.hid (HB0.out.trans (hb2.mono HB0.out.size)); have e4 := cell_of_row _ _ 4 _ _ _ HD2.out; have e5 := cell_of_row _ _ 5 _ _ _ HD2.out; have e6 := cell_of_row _ _ 6 _ _ _ HD2.out; have e7 := cell_of_row _ _ 7 _ _ _ HD2.out; have e8 := cell_of_row _ _ 8 _ _ _ HD2.out; clear hb2))
          | (go_at_call 111; ((with_reducible refine (HTL.out _).mono ?_); rw [HV2.out]; rintro e w3 ⟨rfl, hb3⟩; have HD3 := Lib.hid (show w3.heap[w.heap.size]? = some (.cells #[.int .i64 3, .string (bs p), .slice A n c, .string (bs o), .bool lv, .string (bs lx), .bool ls, .string (bs ly), .int .i64 ln, .bool rv, .string (bs rx), .bool rs, .string (bs ry), .int .i64 rn] 47 (0, 0)) from (hb3.block w.heap.size (Array.getElem?_eq_some_iff.1 HD2.out).1).trans HD2.out); have HB3 := Lib.hid (HB2.out.trans (hb3.mono HB2.out.size)); have f9 := cell_of_row _ _ 9 _ _ _ HD3.out; have f10 := cell_of_row _ _ 10 _ _ _ HD3.out; have f11 := cell_of_row _ _ 11 _ _ _ HD3.out; have f12 := cell_of_row _ _ 12 _ _ _ HD3.out; have f13 := cell_of_row _ _ 13 _ _ _ HD3.out; clear hb3)))
        go_ret
        exact ⟨rfl, HB3.out⟩
      | true =>
        have HV2 := Lib.hid hv2
        cases hv3 : mayT ⟨rv, rx, rs, ry, rn⟩ with
        | false =>
          have HV3 := Lib.hid hv3
          rw [show mayL ⟨k, ⟨p, la⟩, o, ⟨lv, lx, ls, ly, ln⟩, ⟨rv, rx, rs, ry, rn⟩⟩ = false from by rw [hE, ho, hv2, hv3]; rfl]
          clear hE ho hk3 hnil hv2 hv3
          go_enter Tryz.func83, Tryz.ntmps83
          go_wp2_with (first
            | (go_at_call 114; ((with_reducible refine (HHO.out _).mono ?_); rw [HO.out]; rintro e w2 ⟨⟨b, rfl⟩, hb2⟩; have HD2 := Lib.hid (show w2.heap[w.heap.size]? = some (.cells #[.int .i64 3, .string (bs p), .slice A n c, .string (bs o), .bool lv, .string (bs lx), .bool ls, .string (bs ly), .int .i64 ln, .bool rv, .string (bs rx), .bool rs, .string (bs ry), .int .i64 rn] 47 (0, 0)) from (hb2.block w.heap.size (by rw [World.size_alloc]; omega)).trans HNW.out); have HB2 := Lib.hid (HB0.out.trans (hb2.mono HB0.out.size)); have e4 := cell_of_row _ _ 4 _ _ _ HD2.out; have e5 := cell_of_row _ _ 5 _ _ _ HD2.out; have e6 := cell_of_row _ _ 6 _ _ _ HD2.out; have e7 := cell_of_row _ _ 7 _ _ _ HD2.out; have e8 := cell_of_row _ _ 8 _ _ _ HD2.out; clear hb2))
            | (go_at_call 111; ((with_reducible refine (HTL.out _).mono ?_); rw [HV2.out]; rintro e w3 ⟨rfl, hb3⟩; have HD3 := Lib.hid (show w3.heap[w.heap.size]? = some (.cells #[.int .i64 3, .string (bs p), .slice A n c, .string (bs o), .bool lv, .string (bs lx), .bool ls, .string (bs ly), .int .i64 ln, .bool rv, .string (bs rx), .bool rs, .string (bs ry), .int .i64 rn] 47 (0, 0)) from (hb3.block w.heap.size (Array.getElem?_eq_some_iff.1 HD2.out).1).trans HD2.out); have HB3 := Lib.hid (HB2.out.trans (hb3.mono HB2.out.size)); have f9 := cell_of_row _ _ 9 _ _ _ HD3.out; have f10 := cell_of_row _ _ 10 _ _ _ HD3.out; have f11 := cell_of_row _ _ 11 _ _ _ HD3.out; have f12 := cell_of_row _ _ 12 _ _ _ HD3.out; have f13 := cell_of_row _ _ 13 _ _ _ HD3.out; clear hb3))
            | (go_at_call 111; ((with_reducible refine (HTR.out w3).mono ?_); rw [HV3.out]; rintro e w4 ⟨rfl, hb4⟩; have HD4 := Lib.hid (show w4.heap[w.heap.size]? = some (.cells #[.int .i64 3, .string (bs p), .slice A n c, .string (bs o), .bool lv, .string (bs lx), .bool ls, .string (bs ly), .int .i64 ln, .bool rv, .string (bs rx), .bool rs, .string (bs ry), .int .i64 rn] 47 (0, 0)) from (hb4.block w.heap.size (Array.getElem?_eq_some_iff.1 HD3.out).1).trans HD3.out); have HB4 := Lib.hid (HB3.out.trans (hb4.mono HB3.out.size)); have g1 := cell_of_row _ _ 1 _ _ _ HD4.out; have g2 := cell_of_row _ _ 2 _ _ _ HD4.out; clear hb4)))
          go_ret
          exact ⟨rfl, HB4.out⟩
        | true =>
          have HV3 := Lib.hid hv3
          rw [show mayL ⟨k, ⟨p, la⟩, o, ⟨lv, lx, ls, ly, ln⟩, ⟨rv, rx, rs, ry, rn⟩⟩ = ((bs p).toList.isEmpty && ((n : Int) == 0)) from by rw [hE, ho, hv2, hv3]; rfl]
          clear hE ho hk3 hnil hv2 hv3
          go_enter Tryz.func83, Tryz.ntmps83
          go_wp2_with (first
            | (go_at_call 114; ((with_reducible refine (HHO.out _).mono ?_); rw [HO.out]; rintro e w2 ⟨⟨b, rfl⟩, hb2⟩; have HD2 := Lib.hid (show w2.heap[w.heap.size]? = some (.cells #[.int .i64 3, .string (bs p), .slice A n c, .string (bs o), .bool lv, .string (bs lx), .bool ls, .string (bs ly), .int .i64 ln, .bool rv, .string (bs rx), .bool rs, .string (bs ry), .int .i64 rn] 47 (0, 0)) from (hb2.block w.heap.size (by rw [World.size_alloc]; omega)).trans HNW.out); have HB2 := Lib.hid (HB0.out.trans (hb2.mono HB0.out.size)); have e4 := cell_of_row _ _ 4 _ _ _ HD2.out; have e5 := cell_of_row _ _ 5 _ _ _ HD2.out; have e6 := cell_of_row _ _ 6 _ _ _ HD2.out; have e7 := cell_of_row _ _ 7 _ _ _ HD2.out; have e8 := cell_of_row _ _ 8 _ _ _ HD2.out; clear hb2))
            | (go_at_call 111; ((with_reducible refine (HTL.out _).mono ?_); rw [HV2.out]; rintro e w3 ⟨rfl, hb3⟩; have HD3 := Lib.hid (show w3.heap[w.heap.size]? = some (.cells #[.int .i64 3, .string (bs p), .slice A n c, .string (bs o), .bool lv, .string (bs lx), .bool ls, .string (bs ly), .int .i64 ln, .bool rv, .string (bs rx), .bool rs, .string (bs ry), .int .i64 rn] 47 (0, 0)) from (hb3.block w.heap.size (Array.getElem?_eq_some_iff.1 HD2.out).1).trans HD2.out); have HB3 := Lib.hid (HB2.out.trans (hb3.mono HB2.out.size)); have f9 := cell_of_row _ _ 9 _ _ _ HD3.out; have f10 := cell_of_row _ _ 10 _ _ _ HD3.out; have f11 := cell_of_row _ _ 11 _ _ _ HD3.out; have f12 := cell_of_row _ _ 12 _ _ _ HD3.out; have f13 := cell_of_row _ _ 13 _ _ _ HD3.out; clear hb3))
            | (go_at_call 111; ((with_reducible refine (HTR.out w3).mono ?_); rw [HV3.out]; rintro e w4 ⟨rfl, hb4⟩; have HD4 := Lib.hid (show w4.heap[w.heap.size]? = some (.cells #[.int .i64 3, .string (bs p), .slice A n c, .string (bs o), .bool lv, .string (bs lx), .bool ls, .string (bs ly), .int .i64 ln, .bool rv, .string (bs rx), .bool rs, .string (bs ry), .int .i64 rn] 47 (0, 0)) from (hb4.block w.heap.size (Array.getElem?_eq_some_iff.1 HD3.out).1).trans HD3.out); have HB4 := Lib.hid (HB3.out.trans (hb4.mono HB3.out.size)); have g1 := cell_of_row _ _ 1 _ _ _ HD4.out; have g2 := cell_of_row _ _ 2 _ _ _ HD4.out; clear hb4)))
          all_goals
            go_ret
            refine ⟨?_, HB4.out⟩
            first | rfl | (simp_all; done)
  · have hq3 : (kk == 3) = false := beq_eq_false_iff_ne.2 h3
    have hk3 : ¬ k = 3 := by omega
    by_cases h12 : kk = 1 ∨ kk = 2
    · have hkb : (k == 1 || k == 2) = true := by rcases h12 with rfl | rfl <;> (have := hk; subst this; decide)
      have hE : mayL ⟨k, ⟨p, la⟩, o, ⟨lv, lx, ls, ly, ln⟩, ⟨rv, rx, rs, ry, rn⟩⟩ = (o.isEmpty && isTerm0 ⟨lv, lx, ls, ly, ln⟩ && isTerm0 ⟨rv, rx, rs, ry, rn⟩ && mayA ⟨p, la⟩) := by
        unfold mayL
        rw [if_neg hk3, hkb, Bool.true_and]
      by_cases hoe : o = []
      · by_cases hl0 : (⟨lv, lx, ls, ly, ln⟩ : TermL) = term0
        · by_cases hr0 : (⟨rv, rx, rs, ry, rn⟩ : TermL) = term0
          · rw [show mayL ⟨k, ⟨p, la⟩, o, ⟨lv, lx, ls, ly, ln⟩, ⟨rv, rx, rs, ry, rn⟩⟩ = mayA ⟨p, la⟩ from by rw [hE, hoe, hl0, hr0]; rfl]
            simp only [term0, TermL.mk.injEq] at hl0 hr0
            obtain ⟨rfl, rfl, rfl, rfl, rfl⟩ := hl0
            obtain ⟨rfl, rfl, rfl, rfl, rfl⟩ := hr0
            subst hoe
            clear hE hkb hk3 hk hn hq3 h3
            rcases h12 with rfl | rfl
            all_goals
              go_enter Tryz.func83, Tryz.ntmps83
              go_wp2_with (go_at_call 81; ((with_reducible refine (HAT.out _ HT0.out).mono ?_); rintro e w2 ⟨rfl, hb2⟩; have HB2 := Lib.hid (HB0.out.trans (hb2.mono HB0.out.size)); clear hb2))
              go_ret
              exact ⟨rfl, HB2.out⟩
          · rw [show mayL ⟨k, ⟨p, la⟩, o, ⟨lv, lx, ls, ly, ln⟩, ⟨rv, rx, rs, ry, rn⟩⟩ = false from by
              have : isTerm0 ⟨rv, rx, rs, ry, rn⟩ = false := by
                cases hh : isTerm0 ⟨rv, rx, rs, ry, rn⟩ with
                | false => rfl
                | true => exact absurd (isTerm0_eq hh) hr0
              rw [hE, this]; simp]
            have HR0 := Lib.hid hr0
            simp only [term0, TermL.mk.injEq] at hl0
            obtain ⟨rfl, rfl, rfl, rfl, rfl⟩ := hl0
            subst hoe
            clear hE hkb hk3 hk hn hq3 h3 hr0
            rcases h12 with rfl | rfl
            all_goals
              go_enter Tryz.func83, Tryz.ntmps83
              go_wp2_with fail
              all_goals first
                | (go_ret; exact ⟨rfl, (Below.refl w.heap.size w).alloc (Nat.le_refl _) _⟩)
                | (exfalso; have hr := HR0.out; simp_all [term0, bs_list]; done)
        · rw [show mayL ⟨k, ⟨p, la⟩, o, ⟨lv, lx, ls, ly, ln⟩, ⟨rv, rx, rs, ry, rn⟩⟩ = false from by
            have : isTerm0 ⟨lv, lx, ls, ly, ln⟩ = false := by
              cases hh : isTerm0 ⟨lv, lx, ls, ly, ln⟩ with
              | false => rfl
              | true => exact absurd (isTerm0_eq hh) hl0
            rw [hE, this]; simp]
          have HR0 := Lib.hid hl0
          subst hoe
          clear hE hkb hk3 hk hn hq3 h3 hl0
          rcases h12 with rfl | rfl
          all_goals
            go_enter Tryz.func83, Tryz.ntmps83
            go_wp2_with fail
            all_goals first
              | (go_ret; exact ⟨rfl, (Below.refl w.heap.size w).alloc (Nat.le_refl _) _⟩)
              | (exfalso; have hr := HR0.out; simp_all [term0, bs_list]; done)
      · have hon : ¬ (bs o).toList = [] := by rw [bs_list]; exact hoe
        rw [show mayL ⟨k, ⟨p, la⟩, o, ⟨lv, lx, ls, ly, ln⟩, ⟨rv, rx, rs, ry, rn⟩⟩ = false from by
          have : o.isEmpty = false := by
            cases o with
            | nil => exact absurd rfl hoe
            | cons a b => rfl
          rw [hE, this]; rfl]
        clear hE hkb hk3 hk hn hq3 h3 hoe
        rcases h12 with rfl | rfl
        all_goals
          go_enter Tryz.func83, Tryz.ntmps83
          go_wp2_with fail
          go_ret
          exact ⟨rfl, HB0.out⟩
    · have h1 : (kk == 1) = false := beq_eq_false_iff_ne.2 fun e => h12 (.inl e)
      have h2 : (kk == 2) = false := beq_eq_false_iff_ne.2 fun e => h12 (.inr e)
      rw [show mayL ⟨k, ⟨p, la⟩, o, ⟨lv, lx, ls, ly, ln⟩, ⟨rv, rx, rs, ry, rn⟩⟩ = false from by
        unfold mayL
        rw [if_neg hk3]
        have a1 : ¬ k = 1 := by omega
        have a2 : ¬ k = 2 := by omega
        simp [a1, a2]]
      clear hk hn hk3 h12 h3
      go_enter Tryz.func83, Tryz.ntmps83
      go_wp2_with fail
      go_ret
      exact ⟨rfl, HB0.out⟩
end Go.Proofs.YtminbdcabacfbaaGreatDoor.V

namespace Go.Proofs.YtminbdcabacfbaaGreatDoor.V
set_option linter.unusedVariables false
set_option linter.unusedSimpArgs false
open Go.RowKit

set_option maxRecDepth 100000 in
set_option maxHeartbeats 4000000 in
theorem allCL_calls (kk : Int) (Aa : Option Addr) (na ca : Nat) (t : LitL) (r : Nat) (w : World) (hr : w.cell? ⟨r, 0, none⟩ = some (.func (.func 83) #[] #[])) (hkk : kk.toNat = t.k) (hna : na = t.a.a.length) (htr : TermsRd w Aa t.a.a) (hs : LitSz t) :
    Calls Tryz.prog 113 #[.agg #[.int .i64 kk, .string (bs t.a.p), .slice Aa na ca, .string (bs t.o), .bool t.l.v, .string (bs t.l.x), .bool t.l.s, .string (bs t.l.t), .int .i64 t.l.n, .bool t.r.v, .string (bs t.r.x), .bool t.r.s, .string (bs t.r.t), .int .i64 t.r.n], .pointer (some ⟨r, 0, none⟩)] w fun e w' => e = .returned (.bool (!(mayL t))) ∧ Below w.heap.size w w' := by
  have hbl := (Below.refl w.heap.size w).alloc (Nat.le_refl _) (.cells #[.int .i64 kk, .string (bs t.a.p), .slice Aa na ca, .string (bs t.o), .bool t.l.v, .string (bs t.l.x), .bool t.l.s, .string (bs t.l.t), .int .i64 t.l.n, .bool t.r.v, .string (bs t.r.x), .bool t.r.s, .string (bs t.r.t), .int .i64 t.r.n] 47)
  have hnw := heap_alloc_new w (.cells #[.int .i64 kk, .string (bs t.a.p), .slice Aa na ca, .string (bs t.o), .bool t.l.v, .string (bs t.l.x), .bool t.l.s, .string (bs t.l.t), .int .i64 t.l.n, .bool t.r.v, .string (bs t.r.x), .bool t.r.s, .string (bs t.r.t), .int .i64 t.r.n] 47)
  have HB0 := Lib.hid hbl
  have hr1 := cell_below hbl hr
  have HT0 := Lib.hid (htr.below hbl)
  have d0 := cell_of_row _ _ 0 _ _ _ hnw
  have d1 := cell_of_row _ _ 1 _ _ _ hnw
  have d2 := cell_of_row _ _ 2 _ _ _ hnw
  have d3 := cell_of_row _ _ 3 _ _ _ hnw
  have d4 := cell_of_row _ _ 4 _ _ _ hnw
  have d5 := cell_of_row _ _ 5 _ _ _ hnw
  have d6 := cell_of_row _ _ 6 _ _ _ hnw
  have d7 := cell_of_row _ _ 7 _ _ _ hnw
  have d8 := cell_of_row _ _ 8 _ _ _ hnw
  have d9 := cell_of_row _ _ 9 _ _ _ hnw
  have d10 := cell_of_row _ _ 10 _ _ _ hnw
  have d11 := cell_of_row _ _ 11 _ _ _ hnw
  have d12 := cell_of_row _ _ 12 _ _ _ hnw
  have d13 := cell_of_row _ _ 13 _ _ _ hnw
  have HF := Lib.hid (fun (W : World) (h : TermsRd W Aa t.a.a) => prMayL_calls kk Aa na ca t W hkk hna h hs)
  clear hbl hnw hr hs hkk hna htr
  go_enter Tryz.func113, Tryz.ntmps113
  go_wp2_with (go_at_call 83; ((with_reducible refine (HF.out _ HT0.out).mono ?_); rintro e w2 ⟨rfl, hb2⟩; have HB2 := Lib.hid (HB0.out.trans (hb2.mono HB0.out.size)); clear hb2))
  go_ret
  exact ⟨rfl, HB2.out⟩

set_option maxRecDepth 100000 in
set_option maxHeartbeats 8000000 in
theorem allIL_calls (A : Option Addr) (n c r : Nat) (L : List LitL) (w : World) (hr : w.cell? ⟨r, 0, none⟩ = some (.func (.func 83) #[] #[])) (hn : n = L.length) (hT : LitsRd w A L) (hok : ∀ t ∈ L, LitSz t) (hn2 : n < 1000000000) :
    Calls Tryz.prog 140 #[.slice A n c, .func (.func 113) #[] #[.pointer (some ⟨r, 0, none⟩)]] w fun e w' => ∃ k : Int, e = .returned (.int .i64 k) ∧ decide (0 ≤ k) = !(L.all mayL) ∧ Below w.heap.size w w' := by
  have HT := Lib.hid hT
  have HOK := Lib.hid hok
  have HN := Lib.hid hn
  have HR := Lib.hid hr
  clear hT hok hn hr
  go_enter Tryz.func140, Tryz.ntmps140
  go_wp2_with fail
  go_loopw [8] (fun i wr => ∃ k : Nat, k ≤ n ∧ i = .int .i64 (k : Int) ∧ (L.take k).all mayL = true ∧ Below w.heap.size w wr) (fun i _ => n + 1 - (intOf i).toNat)
  case atStart => exact ⟨0, Nat.zero_le _, rfl, rfl, Below.refl _ _⟩
  case round =>
    obtain ⟨k, hk, rfl, hall, hb⟩ := hrel
    have HB := Lib.hid hb
    by_cases hlt : k < n
    · have hd : decide ((k : Int) < (n : Int)) = true := decide_eq_true (by omega)
      obtain ⟨t, hx⟩ : ∃ t, L[k]? = some t := ⟨_, List.getElem?_eq_getElem (by rw [← HN.out]; exact hlt)⟩
      obtain ⟨a, rfl, hh⟩ := HT.out k t hx
      have hh2 := hh.below hb
      have hgt := HOK.out t (List.mem_of_getElem? hx)
      have hsn : (L.take (k + 1)).all mayL = mayL t := by
        rw [List.take_add_one, List.all_append, hall, hx]
        simp
      have hmt : t ∈ L := List.mem_of_getElem? hx
      have HRr := Lib.hid (cell_below hb HR.out)
      obtain ⟨kk, Aa, na, ca, hkk, hna, hnca, htr, d0, d1, d2, d3, d4, d5, d6, d7, d8, d9, d10, d11, d12, d13⟩ := hh2.open
      have HC := Lib.hid (fun (W : World) (hr : W.cell? ⟨r, 0, none⟩ = some (.func (.func 83) #[] #[])) (h : TermsRd W Aa t.a.a) => allCL_calls kk Aa na ca t r W hr hkk hna h hgt)
      have HTR := Lib.hid htr
      clear hkk hna hnca htr
      cases hv : mayL t with
      | true =>
        rw [hv] at hsn
        have HV := Lib.hid hv
        have HSN := Lib.hid hsn
        clear hb hh hh2 hgt hx hall hv hsn hmt
        go_wp2_with (go_at_call 113; ((with_reducible refine (HC.out _ HRr.out HTR.out).mono ?_); rw [HV.out]; rintro e w2 ⟨rfl, hb2⟩; have HB2 := Lib.hid (HB.out.trans (hb2.mono HB.out.size)); clear hb2))
        go_roundw
        case rel => exact ⟨k + 1, hlt, by simp, HSN.out, HB2.out⟩
        case measure => simp [intOf]; omega
      | false =>
        have HV := Lib.hid hv
        have HALL := Lib.hid (show L.all mayL = false by
          rw [List.all_eq_false]
          exact ⟨t, hmt, by rw [hv]; simp⟩)
        clear hb hh hh2 hgt hx hall hv hsn hmt
        go_wp2_with (go_at_call 113; ((with_reducible refine (HC.out _ HRr.out HTR.out).mono ?_); rw [HV.out]; rintro e w2 ⟨rfl, hb2⟩; have HB2 := Lib.hid (HB.out.trans (hb2.mono HB.out.size)); clear hb2))
        go_ret
        exact ⟨(k : Int), rfl, by rw [HALL.out]; exact decide_eq_true (by omega), HB2.out⟩
    · have hkn : k = n := by omega
      subst hkn
      have hd : decide ((k : Int) < (k : Int)) = false := decide_eq_false (by omega)
      have htk : L.take k = L := List.take_of_length_le (by rw [← HN.out]; exact Nat.le_refl _)
      rw [htk] at hall
      have HALL := Lib.hid hall
      clear hb hlt hk hall htk
      go_wp2_with fail
      go_ret
      exact ⟨-1, rfl, by rw [HALL.out]; decide, HB.out⟩
set_option maxRecDepth 100000 in
set_option maxHeartbeats 4000000 in
theorem allFL_calls (A : Option Addr) (n c r : Nat) (L : List LitL) (w : World) (hr : w.cell? ⟨r, 0, none⟩ = some (.func (.func 83) #[] #[])) (hn : n = L.length) (hT : LitsRd w A L) (hok : ∀ t ∈ L, LitSz t) (hn2 : n < 1000000000) :
    Calls Tryz.prog 112 #[.slice A n c, .func (.func 113) #[] #[.pointer (some ⟨r, 0, none⟩)]] w fun e w' => e = .returned (.bool (!(L.all mayL))) ∧ Below w.heap.size w w' := by
  have HI := Lib.hid (allIL_calls A n c r L w hr hn hT hok hn2)
  clear hr hn hT hok
  go_enter Tryz.func112, Tryz.ntmps112
  go_wp2_with (go_at_call 140; ((with_reducible refine HI.out.mono ?_); rintro e w2 ⟨k, rfl, hk, hb2⟩; have HB2 := Lib.hid hb2; have HK := Lib.hid hk; clear hb2 hk))
  go_ret
  exact ⟨by rw [← HK.out]; rfl, HB2.out⟩
set_option maxRecDepth 100000 in
set_option maxHeartbeats 4000000 in
theorem allL_calls (A : Option Addr) (n c : Nat) (L : List LitL) (w : World) (hn : n = L.length) (hT : LitsRd w A L) (hok : ∀ t ∈ L, LitSz t) (hn2 : n < 1000000000) :
    Calls Tryz.prog 82 #[.slice A n c, .func (.func 83) #[] #[]] w fun e w' => e = .returned (.bool (L.all mayL)) ∧ Below w.heap.size w w' := by
  have hbl := (Below.refl w.heap.size w).alloc (Nat.le_refl _) (.cells #[.func (.func 83) #[] #[]] 99)
  have hnw := heap_alloc_new w (.cells #[.func (.func 83) #[] #[]] 99)
  have HB0 := Lib.hid hbl
  have HI := Lib.hid (allFL_calls A n c w.heap.size L _ (cell_of_row _ _ 0 _ _ _ hnw) hn (hT.below hbl) hok hn2)
  clear hbl hnw hn hT hok
  go_enter Tryz.func82, Tryz.ntmps82
  go_wp2_with (go_at_call 112; ((with_reducible refine HI.out.mono ?_); rintro e w2 ⟨rfl, hb2⟩; have HB2 := Lib.hid (HB0.out.trans (hb2.mono HB0.out.size)); clear hb2))
  go_ret
  refine ⟨?_, HB2.out⟩
  simp
end Go.Proofs.YtminbdcabacfbaaGreatDoor.V

namespace Go.Proofs.YtminbdcabacfbaaGreatDoor.V
set_option linter.unusedVariables false
set_option linter.unusedSimpArgs false
open Go.RowKit

set_option maxRecDepth 100000 in
set_option maxHeartbeats 8000000 in
theorem prMayR_calls (A B : Option Addr) (n c m d : Nat) (x : RuleL) (w : World) (hn : n = x.h.a.length) (hm : m = x.b.length) (hT : TermsRd w A x.h.a) (hL : LitsRd w B x.b) (hs : RuleSz x) :
    Calls Tryz.prog 48 #[.agg #[.string (bs x.h.p), .slice A n c, .slice B m d]] w fun e w' => e = .returned (.bool (mayR x)) ∧ Below w.heap.size w w' := by
  have hbl := (Below.refl w.heap.size w).alloc (Nat.le_refl _) (.cells #[.string (bs x.h.p), .slice A n c, .slice B m d] 50)
  have hnw := heap_alloc_new w (.cells #[.string (bs x.h.p), .slice A n c, .slice B m d] 50)
  have HB0 := Lib.hid hbl
  have HT0 := Lib.hid (hT.below hbl)
  have HL0 := Lib.hid (hL.below hbl)
  have HNW := Lib.hid hnw
  have d0 := cell_of_row _ _ 0 _ _ _ hnw
  have d1 := cell_of_row _ _ 1 _ _ _ hnw
  have HAT := Lib.hid (fun (W : World) (h : TermsRd W A x.h.a) => prMayA_calls A n c x.h W hn h hs.1)
  have HAL := Lib.hid (fun (W : World) (h : LitsRd W B x.b) => allL_calls B m d x.b W hm h hs.2.2 (by rw [hm]; exact hs.2.1))
  have hE : mayR x = (mayA x.h && decide ((m : Int) ≤ 8) && x.b.all mayL) := by
    unfold mayR
    rw [show decide (x.b.length ≤ 8) = decide ((m : Int) ≤ 8) from by rw [decide_eq_decide]; omega]
  clear hbl hnw hT hL hs hn hm
  cases hv : mayA x.h with
  | false =>
    have HV := Lib.hid hv
    have HE := Lib.hid (show mayR x = false by rw [hE, hv]; rfl)
    clear hv hE
    go_enter Tryz.func48, Tryz.ntmps48
    go_wp2_with (go_at_call 81; ((with_reducible refine (HAT.out _ HT0.out).mono ?_); rw [HV.out]; rintro e w2 ⟨rfl, hb2⟩; have HB2 := Lib.hid (HB0.out.trans (hb2.mono HB0.out.size)); clear hb2))
    go_ret
    exact ⟨by rw [HE.out]; rfl, HB2.out⟩
  | true =>
    by_cases h6 : (m : Int) ≤ 8
    · have HV := Lib.hid hv
      have HE := Lib.hid (show mayR x = x.b.all mayL by rw [hE, hv, decide_eq_true h6]; rfl)
      clear hv hE
      go_enter Tryz.func48, Tryz.ntmps48
      go_wp2_with (first
        | (go_at_call 81; ((with_reducible refine (HAT.out _ HT0.out).mono ?_); rw [HV.out]; rintro e w2 ⟨rfl, hb2⟩; have HB2 := Lib.hid (HB0.out.trans (hb2.mono HB0.out.size)); have HL2 := Lib.hid (HL0.out.below hb2); have e2 := cell_below hb2 (cell_of_row _ _ 2 _ _ _ HNW.out); clear hb2))
        | (go_at_call 82; ((with_reducible refine (HAL.out _ HL2.out).mono ?_); rintro e w3 ⟨rfl, hb3⟩; have HB3 := Lib.hid (HB2.out.trans (hb3.mono HB2.out.size)); clear hb3)))
      go_ret
      exact ⟨by rw [HE.out]; rfl, HB3.out⟩
    · have HV := Lib.hid hv
      have HE := Lib.hid (show mayR x = false by rw [hE, hv, decide_eq_false h6]; rfl)
      clear hv hE
      go_enter Tryz.func48, Tryz.ntmps48
      go_wp2_with (go_at_call 81; ((with_reducible refine (HAT.out _ HT0.out).mono ?_); rw [HV.out]; rintro e w2 ⟨rfl, hb2⟩; have HB2 := Lib.hid (HB0.out.trans (hb2.mono HB0.out.size)); have e2 := cell_below hb2 (cell_of_row _ _ 2 _ _ _ HNW.out); clear hb2))
      go_ret
      exact ⟨by rw [HE.out]; rfl, HB2.out⟩
end Go.Proofs.YtminbdcabacfbaaGreatDoor.V

namespace Go.Proofs.YtminbdcabacfbaaGreatDoor.V
set_option linter.unusedVariables false
set_option linter.unusedSimpArgs false
open Go.RowKit

set_option maxRecDepth 100000 in
set_option maxHeartbeats 4000000 in
theorem allCR_calls (Aa Bb : Option Addr) (na ca nb cb : Nat) (t : RuleL) (r : Nat) (w : World) (hr : w.cell? ⟨r, 0, none⟩ = some (.func (.func 48) #[] #[])) (hna : na = t.h.a.length) (hnb : nb = t.b.length) (htr : TermsRd w Aa t.h.a) (hlr : LitsRd w Bb t.b) (hs : RuleSz t) :
    Calls Tryz.prog 80 #[.agg #[.string (bs t.h.p), .slice Aa na ca, .slice Bb nb cb], .pointer (some ⟨r, 0, none⟩)] w fun e w' => e = .returned (.bool (!(mayR t))) ∧ Below w.heap.size w w' := by
  have hbl := (Below.refl w.heap.size w).alloc (Nat.le_refl _) (.cells #[.string (bs t.h.p), .slice Aa na ca, .slice Bb nb cb] 50)
  have hnw := heap_alloc_new w (.cells #[.string (bs t.h.p), .slice Aa na ca, .slice Bb nb cb] 50)
  have HB0 := Lib.hid hbl
  have hr1 := cell_below hbl hr
  have HT0 := Lib.hid (htr.below hbl)
  have HL0 := Lib.hid (hlr.below hbl)
  have d0 := cell_of_row _ _ 0 _ _ _ hnw
  have d1 := cell_of_row _ _ 1 _ _ _ hnw
  have d2 := cell_of_row _ _ 2 _ _ _ hnw
  have HF := Lib.hid (fun (W : World) (h : TermsRd W Aa t.h.a) (h2 : LitsRd W Bb t.b) => prMayR_calls Aa Bb na ca nb cb t W hna hnb h h2 hs)
  clear hbl hnw hr hs hna hnb htr hlr
  go_enter Tryz.func80, Tryz.ntmps80
  go_wp2_with (go_at_call 48; ((with_reducible refine (HF.out _ HT0.out HL0.out).mono ?_); rintro e w2 ⟨rfl, hb2⟩; have HB2 := Lib.hid (HB0.out.trans (hb2.mono HB0.out.size)); clear hb2))
  go_ret
  exact ⟨rfl, HB2.out⟩

set_option maxRecDepth 100000 in
set_option maxHeartbeats 8000000 in
theorem allIR_calls (A : Option Addr) (n c r : Nat) (L : List RuleL) (w : World) (hr : w.cell? ⟨r, 0, none⟩ = some (.func (.func 48) #[] #[])) (hn : n = L.length) (hT : RulesRd w A L) (hok : ∀ t ∈ L, RuleSz t) (hn2 : n < 1000000000) :
    Calls Tryz.prog 109 #[.slice A n c, .func (.func 80) #[] #[.pointer (some ⟨r, 0, none⟩)]] w fun e w' => ∃ k : Int, e = .returned (.int .i64 k) ∧ decide (0 ≤ k) = !(L.all mayR) ∧ Below w.heap.size w w' := by
  have HT := Lib.hid hT
  have HOK := Lib.hid hok
  have HN := Lib.hid hn
  have HR := Lib.hid hr
  clear hT hok hn hr
  go_enter Tryz.func109, Tryz.ntmps109
  go_wp2_with fail
  go_loopw [8] (fun i wr => ∃ k : Nat, k ≤ n ∧ i = .int .i64 (k : Int) ∧ (L.take k).all mayR = true ∧ Below w.heap.size w wr) (fun i _ => n + 1 - (intOf i).toNat)
  case atStart => exact ⟨0, Nat.zero_le _, rfl, rfl, Below.refl _ _⟩
  case round =>
    obtain ⟨k, hk, rfl, hall, hb⟩ := hrel
    have HB := Lib.hid hb
    by_cases hlt : k < n
    · have hd : decide ((k : Int) < (n : Int)) = true := decide_eq_true (by omega)
      obtain ⟨t, hx⟩ : ∃ t, L[k]? = some t := ⟨_, List.getElem?_eq_getElem (by rw [← HN.out]; exact hlt)⟩
      obtain ⟨a, rfl, hh⟩ := HT.out k t hx
      have hh2 := hh.below hb
      have hgt := HOK.out t (List.mem_of_getElem? hx)
      have hsn : (L.take (k + 1)).all mayR = mayR t := by
        rw [List.take_add_one, List.all_append, hall, hx]
        simp
      have hmt : t ∈ L := List.mem_of_getElem? hx
      have HRr := Lib.hid (cell_below hb HR.out)
      obtain ⟨⟨Aa, na, ca, hna, hca, d0, d1, htr⟩, Bb, nb, cb, hnb, hcb, d2, hlr⟩ := hh2
      have HC := Lib.hid (fun (W : World) (hr : W.cell? ⟨r, 0, none⟩ = some (.func (.func 48) #[] #[])) (h : TermsRd W Aa t.h.a) (h2 : LitsRd W Bb t.b) => allCR_calls Aa Bb na ca nb cb t r W hr hna hnb h h2 hgt)
      have HTR := Lib.hid htr
      have HLR := Lib.hid hlr
      clear hna hnb hca hcb htr hlr
      cases hv : mayR t with
      | true =>
        rw [hv] at hsn
        have HV := Lib.hid hv
        have HSN := Lib.hid hsn
        clear hb hh hgt hx hall hv hsn hmt
        go_wp2_with (go_at_call 80; ((with_reducible refine (HC.out _ HRr.out HTR.out HLR.out).mono ?_); rw [HV.out]; rintro e w2 ⟨rfl, hb2⟩; have HB2 := Lib.hid (HB.out.trans (hb2.mono HB.out.size)); clear hb2))
        go_roundw
        case rel => exact ⟨k + 1, hlt, by simp, HSN.out, HB2.out⟩
        case measure => simp [intOf]; omega
      | false =>
        have HV := Lib.hid hv
        have HALL := Lib.hid (show L.all mayR = false by
          rw [List.all_eq_false]
          exact ⟨t, hmt, by rw [hv]; simp⟩)
        clear hb hh hgt hx hall hv hsn hmt
        go_wp2_with (go_at_call 80; ((with_reducible refine (HC.out _ HRr.out HTR.out HLR.out).mono ?_); rw [HV.out]; rintro e w2 ⟨rfl, hb2⟩; have HB2 := Lib.hid (HB.out.trans (hb2.mono HB.out.size)); clear hb2))
        go_ret
        exact ⟨(k : Int), rfl, by rw [HALL.out]; exact decide_eq_true (by omega), HB2.out⟩
    · have hkn : k = n := by omega
      subst hkn
      have hd : decide ((k : Int) < (k : Int)) = false := decide_eq_false (by omega)
      have htk : L.take k = L := List.take_of_length_le (by rw [← HN.out]; exact Nat.le_refl _)
      rw [htk] at hall
      have HALL := Lib.hid hall
      clear hb hlt hk hall htk
      go_wp2_with fail
      go_ret
      exact ⟨-1, rfl, by rw [HALL.out]; decide, HB.out⟩
set_option maxRecDepth 100000 in
set_option maxHeartbeats 4000000 in
theorem allFR_calls (A : Option Addr) (n c r : Nat) (L : List RuleL) (w : World) (hr : w.cell? ⟨r, 0, none⟩ = some (.func (.func 48) #[] #[])) (hn : n = L.length) (hT : RulesRd w A L) (hok : ∀ t ∈ L, RuleSz t) (hn2 : n < 1000000000) :
    Calls Tryz.prog 79 #[.slice A n c, .func (.func 80) #[] #[.pointer (some ⟨r, 0, none⟩)]] w fun e w' => e = .returned (.bool (!(L.all mayR))) ∧ Below w.heap.size w w' := by
  have HI := Lib.hid (allIR_calls A n c r L w hr hn hT hok hn2)
  clear hr hn hT hok
  go_enter Tryz.func79, Tryz.ntmps79
  go_wp2_with (go_at_call 109; ((with_reducible refine HI.out.mono ?_); rintro e w2 ⟨k, rfl, hk, hb2⟩; have HB2 := Lib.hid hb2; have HK := Lib.hid hk; clear hb2 hk))
  go_ret
  exact ⟨by rw [← HK.out]; rfl, HB2.out⟩
set_option maxRecDepth 100000 in
set_option maxHeartbeats 4000000 in
theorem allR_calls (A : Option Addr) (n c : Nat) (L : List RuleL) (w : World) (hn : n = L.length) (hT : RulesRd w A L) (hok : ∀ t ∈ L, RuleSz t) (hn2 : n < 1000000000) :
    Calls Tryz.prog 47 #[.slice A n c, .func (.func 48) #[] #[]] w fun e w' => e = .returned (.bool (L.all mayR)) ∧ Below w.heap.size w w' := by
  have hbl := (Below.refl w.heap.size w).alloc (Nat.le_refl _) (.cells #[.func (.func 48) #[] #[]] 98)
  have hnw := heap_alloc_new w (.cells #[.func (.func 48) #[] #[]] 98)
  have HB0 := Lib.hid hbl
  have HI := Lib.hid (allFR_calls A n c w.heap.size L _ (cell_of_row _ _ 0 _ _ _ hnw) hn (hT.below hbl) hok hn2)
  clear hbl hnw hn hT hok
  go_enter Tryz.func47, Tryz.ntmps47
  go_wp2_with (go_at_call 79; ((with_reducible refine HI.out.mono ?_); rintro e w2 ⟨rfl, hb2⟩; have HB2 := Lib.hid (HB0.out.trans (hb2.mono HB0.out.size)); clear hb2))
  go_ret
  refine ⟨?_, HB2.out⟩
  simp
end Go.Proofs.YtminbdcabacfbaaGreatDoor.V

namespace Go.Proofs.YtminbdcabacfbaaGreatDoor.V
set_option linter.unusedVariables false
set_option linter.unusedSimpArgs false
open Go.RowKit

set_option maxRecDepth 100000 in
set_option maxHeartbeats 16000000 in
theorem prMay_calls (A B : Option Addr) (n c m d : Nat) (ds : List DeclL) (rs : List RuleL) (w : World) (hn : n = ds.length) (hm : m = rs.length) (hD : DeclsRd w A ds) (hR : RulesRd w B rs) (hsd : ∀ d ∈ ds, DeclSz d) (hsr : ∀ r ∈ rs, RuleSz r) :
    Calls Tryz.prog 18 #[.agg #[.slice A n c, .slice B m d]] w fun e w' => e = .returned (.bool (mayP ds rs)) ∧ Below w.heap.size w w' := by
  have hbl := (Below.refl w.heap.size w).alloc (Nat.le_refl _) (.cells #[.slice A n c, .slice B m d] 36)
  have hnw := heap_alloc_new w (.cells #[.slice A n c, .slice B m d] 36)
  have HB0 := Lib.hid hbl
  have HD0 := Lib.hid (hD.below hbl)
  have HR0 := Lib.hid (hR.below hbl)
  have HNW := Lib.hid hnw
  have d0 := cell_of_row _ _ 0 _ _ _ hnw
  have d1 := cell_of_row _ _ 1 _ _ _ hnw
  have hE : mayP ds rs = (decide ((n : Int) ≤ 400) && decide ((m : Int) ≤ 400) && ds.all mayD && rs.all mayR) := by
    unfold mayP
    rw [show decide (ds.length ≤ 400) = decide ((n : Int) ≤ 400) from by rw [decide_eq_decide]; omega, show decide (rs.length ≤ 400) = decide ((m : Int) ≤ 400) from by rw [decide_eq_decide]; omega]
  by_cases h1 : (n : Int) ≤ 400
  · by_cases h2 : (m : Int) ≤ 400
    · have HAD := Lib.hid (fun (W : World) (h : DeclsRd W A ds) => allD_calls A n c ds W hn h hsd (by omega))
      have HAR := Lib.hid (fun (W : World) (h : RulesRd W B rs) => allR_calls B m d rs W hm h hsr (by omega))
      clear hbl hnw hD hR hsd hsr hn hm
      cases hv : ds.all mayD with
      | false =>
        have HV := Lib.hid hv
        have HE := Lib.hid (show mayP ds rs = false by rw [hE, hv]; simp)
        clear hv hE
        go_enter Tryz.func18, Tryz.ntmps18
        go_wp2_with (go_at_call 46; ((with_reducible refine (HAD.out _ HD0.out).mono ?_); rw [HV.out]; rintro e w2 ⟨rfl, hb2⟩; have HB2 := Lib.hid (HB0.out.trans (hb2.mono HB0.out.size)); clear hb2))
        go_ret
        exact ⟨by rw [HE.out]; rfl, HB2.out⟩
      | true =>
        have HV := Lib.hid hv
        have HE := Lib.hid (show mayP ds rs = rs.all mayR by rw [hE, hv, decide_eq_true h1, decide_eq_true h2]; rfl)
        clear hv hE
        go_enter Tryz.func18, Tryz.ntmps18
        go_wp2_with (first
          | (go_at_call 46; ((with_reducible refine (HAD.out _ HD0.out).mono ?_); rw [HV.out]; rintro e w2 ⟨rfl, hb2⟩; have HB2 := Lib.hid (HB0.out.trans (hb2.mono HB0.out.size)); have HR2 := Lib.hid (HR0.out.below hb2); have e1 := cell_below hb2 (cell_of_row _ _ 1 _ _ _ HNW.out); clear hb2))
          | (go_at_call 47; ((with_reducible refine (HAR.out _ HR2.out).mono ?_); rintro e w3 ⟨rfl, hb3⟩; have HB3 := Lib.hid (HB2.out.trans (hb3.mono HB2.out.size)); clear hb3)))
        go_ret
        exact ⟨by rw [HE.out]; rfl, HB3.out⟩
    · have HE := Lib.hid (show mayP ds rs = false by rw [hE, decide_eq_false h2]; simp)
      clear hbl hnw hD hR hsd hsr hn hm hE
      go_enter Tryz.func18, Tryz.ntmps18
      go_wp2_with fail
      go_ret
      exact ⟨by rw [HE.out]; rfl, HB0.out⟩
  · have HE := Lib.hid (show mayP ds rs = false by rw [hE, decide_eq_false h1]; simp)
    clear hbl hnw hD hR hsd hsr hn hm hE
    go_enter Tryz.func18, Tryz.ntmps18
    go_wp2_with fail
    go_ret
    exact ⟨by rw [HE.out]; rfl, HB0.out⟩
end Go.Proofs.YtminbdcabacfbaaGreatDoor.V

namespace Go.Proofs.YtminbdcabacfbaaGreatDoor.V
set_option linter.unusedVariables false
set_option linter.unusedSimpArgs false
open Go.RowKit

set_option maxRecDepth 100000 in
set_option maxHeartbeats 16000000 in
theorem prRule_calls (A B : Option Addr) (n c m d : Nat) (x : RuleL) (w : World) (hn : n = x.h.a.length) (hm : m = x.b.length) (hT : TermsRd w A x.h.a) (hL : LitsRd w B x.b) (hok : RuleOk' x) (hbig : (ruleT x).length ≤ 140737488355328) (hw : TabW w) :
    Calls Tryz.prog 28 #[.agg #[.string (bs x.h.p), .slice A n c, .slice B m d]] w fun e w' => e = .returned (.string (bs (ruleT x))) ∧ Below w.heap.size w w' := by
  obtain ⟨⟨p, la⟩, lb⟩ := x
  dsimp only at hn hm hT hL ⊢
  have hbl := (Below.refl w.heap.size w).alloc (Nat.le_refl _) (.cells #[.string (bs p), .slice A n c, .slice B m d] 50)
  have hnw := heap_alloc_new w (.cells #[.string (bs p), .slice A n c, .slice B m d] 50)
  have HB0 := Lib.hid hbl
  have HBD := Lib.hid hbl.drew
  have HT0 := Lib.hid (hT.below hbl)
  have HTD := Lib.hid (hT.below hbl.drew)
  have HLD := Lib.hid (hL.below hbl.drew)
  have HW0 := Lib.hid (hw.below hbl)
  have HWD := Lib.hid (hw.below hbl.drew)
  have d0 := cell_of_row _ _ 0 _ _ _ hnw
  have d1 := cell_of_row _ _ 1 _ _ _ hnw
  have d2 := cell_of_row _ _ 2 _ _ _ hnw
  have HNW := Lib.hid hnw
  obtain ⟨E, hEE⟩ : ∃ E, bs (atomT ⟨p, la⟩) = E := ⟨_, rfl⟩
  have hab : (atomT ⟨p, la⟩).length ≤ (ruleT ⟨⟨p, la⟩, lb⟩).length := by
    unfold ruleT
    split <;> simp only [List.length_append] <;> omega
  have HAT := Lib.hid (fun (W : World) (h : TermsRd W A la) (hw : TabW W) => (show Calls Tryz.prog 26 #[.agg #[.string (bs p), .slice A n c]] W (fun e w' => e = .returned (.string E) ∧ Below W.heap.size W w') from by rw [← hEE]; exact prAtom_calls A n c ⟨p, la⟩ W hn h hok.1 (by omega) hw))
  clear hbl hnw hab
  by_cases h0 : m = 0
  · have h00 : lb = [] := List.length_eq_zero_iff.1 (by omega)
    have hE : ruleT ⟨⟨p, la⟩, lb⟩ = atomT ⟨p, la⟩ ++ [46] := if_pos h00
    rw [hE] at hbig
    have HTG := Lib.hid (fun (W : World) => (show Calls Tryz.prog 40 #[.slice (some ⟨W.heap.size, 0, none⟩) 2 2] (W.alloc (.cells #[.string E, .string ⟨#[46]⟩] 9)) (fun e w' => e = .returned (.string (bs (ruleT ⟨⟨p, la⟩, lb⟩))) ∧ Below W.heap.size W w') from by
      have h := tog_new [E, bs [46]] W (by rw [← hEE]; simpa [txs, bs_data] using hbig) (by simp)
      have e1 : (txs [E, bs [46]]).flatten = ruleT ⟨⟨p, la⟩, lb⟩ := by rw [hE, ← hEE]; simp [txs, bs_data]
      rw [e1] at h
      exact h))
    clear hn hm hT hL hok hbig hw hEE hE h00
    subst h0
    go_enter Tryz.func28, Tryz.ntmps28
    go_wp2_with (first
      | (go_at_call 26; ((with_reducible refine (HAT.out _ HT0.out HW0.out).mono ?_); rintro e w2 ⟨rfl, hb2⟩; have HB2 := Lib.hid (HB0.out.trans (hb2.mono HB0.out.size)); clear hb2))
      | (go_at_call 40; ((with_reducible refine (HTG.out w2).mono ?_); rintro e w3 ⟨rfl, hb3⟩; have HB3 := Lib.hid (HB2.out.trans (hb3.mono HB2.out.size)); clear hb3)))
    go_ret
    exact ⟨rfl, HB3.out⟩
  · have h00 : lb ≠ [] := fun e => by subst e; exact h0 (by simpa using hm)
    have hE : ruleT ⟨⟨p, la⟩, lb⟩ = atomT ⟨p, la⟩ ++ [32, 58, 45, 32] ++ sepT cmaT (lb.map litT) ++ [46] := if_neg h00
    rw [hE] at hbig
    obtain ⟨E2, hE2⟩ : ∃ E, bs (sepT cmaT (lb.map litT)) = E := ⟨_, rfl⟩
    have HTX := Lib.hid (fun (W : World) (h : LitsRd W B lb) (hw : TabW W) => (show Calls Tryz.prog 57 #[.slice B m d, .func (.func 22) #[] #[]] W (fun e w' => e = .returned (.string E2) ∧ Below W.heap.size W w') from by
      rw [← hE2]
      exact prTextsL_calls B m d lb W hm h hok.2.2 (by rw [hm]; exact hok.2.1) (by simp only [List.length_append] at hbig; omega) hw))
    have HTG := Lib.hid (fun (W : World) => (show Calls Tryz.prog 40 #[.slice (some ⟨W.heap.size, 0, none⟩) 4 4] (W.alloc (.cells #[.string E, .string ⟨#[32, 58, 45, 32]⟩, .string E2, .string ⟨#[46]⟩] 9)) (fun e w' => e = .returned (.string (bs (ruleT ⟨⟨p, la⟩, lb⟩))) ∧ Below W.heap.size W w') from by
      have h := tog_new [E, bs [32, 58, 45, 32], E2, bs [46]] W (by rw [← hEE, ← hE2]; simpa [txs, bs_data] using hbig) (by simp)
      have e1 : (txs [E, bs [32, 58, 45, 32], E2, bs [46]]).flatten = ruleT ⟨⟨p, la⟩, lb⟩ := by rw [hE, ← hEE, ← hE2]; simp [txs, bs_data]
      rw [e1] at h
      exact h))
    have hnn : ((m : Int) == 0) = false := beq_eq_false_iff_ne.2 (by omega)
    clear hn hm hT hL hok hbig hw h00 hE hE2 hEE h0
    go_enter Tryz.func28, Tryz.ntmps28
    go_wp2_with fail
    go_region_with (first
      | (go_at_call 26; ((with_reducible refine (HAT.out _ HTD.out HWD.out).mono ?_); rintro e w2 ⟨rfl, hb2⟩; have HD2 := Lib.hid (show w2.heap[w.heap.size]? = some (.cells #[.string (bs p), .slice A n c, .slice B m d] 50 (0, 0)) from (hb2.block w.heap.size (by rw [World.size_drew, World.size_alloc]; omega)).trans HNW.out); have HB2 := Lib.hid (HBD.out.trans (hb2.mono HBD.out.size)); have HW2 := Lib.hid (HWD.out.below hb2); have HL2 := Lib.hid (HLD.out.below hb2); have e2 := cell_of_row _ _ 2 _ _ _ HD2.out; clear hb2))
      | (go_at_call 57; ((with_reducible refine (HTX.out _ HL2.out HW2.out).mono ?_); rintro e w3 ⟨rfl, hb3⟩; have HB3 := Lib.hid (HB2.out.trans (hb3.mono HB2.out.size)); clear hb3))
      | (go_at_call 40; ((with_reducible refine (HTG.out w3).mono ?_); rintro e w4 ⟨rfl, hb4⟩; have HB4 := Lib.hid (HB3.out.trans (hb4.mono HB3.out.size)); clear hb4)))
    all_goals
      go_wp2_with fail
      go_ret
      exact ⟨rfl, HB4.out⟩
end Go.Proofs.YtminbdcabacfbaaGreatDoor.V

namespace Go.Proofs.YtminbdcabacfbaaGreatDoor.V
set_option linter.unusedVariables false
set_option linter.unusedSimpArgs false
open Go.RowKit

def dT (d : DeclL) : List UInt8 := declT d ++ [10]
def rT (r : RuleL) : List UInt8 := ruleT r ++ [10]
theorem prgT_eq (ds : List DeclL) (rs : List RuleL) : prgT ds rs = ds.flatMap dT ++ rs.flatMap rT := rfl
theorem flat_snoc {α : Type} (f : α → List UInt8) {L : List α} {k : Nat} {t : α} (h : L[k]? = some t) : (L.take (k + 1)).flatMap f = (L.take k).flatMap f ++ f t := by
  rw [List.take_add_one, List.flatMap_append, h]
  simp
theorem flat_le {α : Type} (f : α → List UInt8) (L : List α) (k : Nat) : ((L.take k).flatMap f).length ≤ (L.flatMap f).length := by
  conv => rhs; rw [← List.take_append_drop k L]
  rw [List.flatMap_append, List.length_append]
  omega
theorem bsCells (l : List UInt8) : Lib.strCells (bs l) = Lib.byteCells l := rfl
def DeclFit (d : DeclL) : Prop := -9223372036854775808 ≤ d.n ∧ d.n ≤ 9223372036854775807

set_option maxRecDepth 100000 in
set_option maxHeartbeats 16000000 in
theorem prProg_calls (A B : Option Addr) (n c m d : Nat) (ds : List DeclL) (rs : List RuleL) (w : World) (hn : n = ds.length) (hm : m = rs.length) (hD : DeclsRd w A ds) (hR : RulesRd w B rs) (hod : ∀ d ∈ ds, DeclFit d) (hor : ∀ r ∈ rs, RuleOk' r) (hbig : (prgT ds rs).length ≤ 140737488355328) (hn2 : n ≤ 1000000000) (hm2 : m ≤ 1000000000) (hw : TabW w) :
    Calls Tryz.prog 16 #[.agg #[.slice A n c, .slice B m d]] w fun e w' => e = .returned (.string (bs (prgT ds rs))) ∧ Below w.heap.size w w' := by
  have hbl := (Below.refl w.heap.size w).alloc (Nat.le_refl _) (.cells #[.slice A n c, .slice B m d] 36)
  have hnw := heap_alloc_new w (.cells #[.slice A n c, .slice B m d] 36)
  have HBL := Lib.hid hbl
  have HD := Lib.hid (hD.below hbl)
  have HR := Lib.hid (hR.below hbl)
  have HW := Lib.hid (hw.below hbl)
  have HOD := Lib.hid hod
  have HOR := Lib.hid hor
  have HN := Lib.hid hn
  have HM := Lib.hid hm
  have HBIG := Lib.hid hbig
  have HNW := Lib.hid hnw
  have h0 := isbld_new (w.alloc (.cells #[.slice A n c, .slice B m d] 36))
  rw [World.size_alloc] at h0
  have HB0 := Lib.hid h0
  have hsz : (w.alloc (.cells #[.slice A n c, .slice B m d] 36)).heap.size = w.heap.size + 1 := World.size_alloc _ _
  have HSZ := Lib.hid hsz
  have d0 := cell_of_row _ _ 0 _ _ _ hnw
  have HBB := Lib.hid (show Below (w.heap.size + 1) (w.alloc (.cells #[.slice A n c, .slice B m d] 36)) ((w.alloc (.cells #[.slice A n c, .slice B m d] 36)).alloc (.cells #[.pointer none, .slice none 0 0] 84)) from (Below.refl _ _).alloc (by rw [hsz]; exact Nat.le_refl _) _)
  clear hbl hnw hD hR hw hod hor hn hm hbig h0 hsz
  go_enter Tryz.func16, Tryz.ntmps16
  go_wp2_with fail
  go_loopw [11] (fun i wr => ∃ k : Nat, k ≤ n ∧ i = .int .i64 (k : Int) ∧ IsBld (w.heap.size + 1) (w.heap.size + 1) (Lib.byteCells ((ds.take k).flatMap dT)) wr ∧ Below (w.heap.size + 1) (w.alloc (.cells #[.slice A n c, .slice B m d] 36)) wr) (fun i _ => n + 1 - (intOf i).toNat)
  case atStart => exact ⟨0, Nat.zero_le _, rfl, HB0.out, HBB.out⟩
  case round =>
    obtain ⟨k, hk, rfl, hbld, hb⟩ := hrel
    have hb' : Below (w.alloc (.cells #[.slice A n c, .slice B m d] 36)).heap.size (w.alloc (.cells #[.slice A n c, .slice B m d] 36)) wr := by rw [HSZ.out]; exact hb
    have hsr : w.heap.size + 1 ≤ wr.heap.size := by have := hb.size; rw [HSZ.out] at this; exact this
    have HBD := Lib.hid hbld
    have HB := Lib.hid hb
    have HSR := Lib.hid hsr
    by_cases hlt : k < n
    · have hd : decide ((k : Int) < (n : Int)) = true := decide_eq_true (by omega)
      obtain ⟨t, hx⟩ : ∃ t, ds[k]? = some t := ⟨_, List.getElem?_eq_getElem (by rw [← HN.out]; exact hlt)⟩
      obtain ⟨a, rfl, hh⟩ := HD.out k t hx
      have hh2 := hh.below hb'
      have hgt := HOD.out t (List.mem_of_getElem? hx)
      have hsn := flat_snoc dT hx
      have hle := flat_le dT ds (k + 1)
      rw [hsn, List.length_append] at hle
      have hbg := HBIG.out
      rw [prgT_eq, List.length_append] at hbg
      obtain ⟨E, hE⟩ : ∃ E, (⟨(Lib.itoa t.n).toArray⟩ : ByteArray) = E := ⟨_, rfl⟩
      obtain ⟨D, hDD⟩ : ∃ D, bs (dT t) = D := ⟨_, rfl⟩
      have hDs : D.size = (dT t).length := by rw [← hDD, bs_size]
      have HITO := Lib.hid (fun (W : World) (h : TabW W) => (show Calls Tryz.prog 41 #[.int .i64 t.n] W (fun e w' => e = .returned (.string E) ∧ Below W.heap.size W w') from by
        refine (Tryz.strconv_Itoa t.n hgt.1 hgt.2 W h.2).mono ?_
        rintro e w' ⟨rfl, q, os, rfl⟩
        exact ⟨by rw [hE], below_grow (Below.refl _ _) (Nat.le_refl _) _ _⟩))
      have HTG := Lib.hid (fun (W : World) => (show Calls Tryz.prog 40 #[.slice (some ⟨W.heap.size, 0, none⟩) 5 5] (W.alloc (.cells #[.string (bs t.p), .string ⟨#[47]⟩, .string E, .string ⟨#[46]⟩, .string ⟨#[10]⟩] 9)) (fun e w' => e = .returned (.string D) ∧ Below W.heap.size W w') from by
        have e1 : (txs [bs t.p, bs [47], E, bs [46], bs [10]]).flatten = dT t := by rw [← hE]; simp [txs, bs_data, dT, declT]
        have h := tog_new [bs t.p, bs [47], E, bs [46], bs [10]] W (by rw [e1]; omega) (by simp)
        rw [e1, hDD] at h
        exact h))
      have HSN := Lib.hid (show Lib.byteCells ((ds.take k).flatMap dT) ++ Lib.strCells D = Lib.byteCells ((ds.take (k + 1)).flatMap dT) by
        rw [hsn, byteCells_app, ← hDD, bsCells])
      have HLE := Lib.hid (show (Lib.byteCells ((ds.take k).flatMap dT)).length + D.size ≤ 140737488355328 by rw [Lib.byteCells_length, hDs]; omega)
      have hbx := (Below.refl wr.heap.size wr).alloc (Nat.le_refl _) (.cells #[.string (bs t.p), .int .i64 t.n] 86)
      have HBX := Lib.hid hbx.drew
      have HWr := Lib.hid ((HW.out.below hb').below hbx.drew)
      have d0 := hh2.c0
      have d1 := hh2.c1
      have hnd := heap_alloc_new wr (.cells #[.string (bs t.p), .int .i64 t.n] 86)
      have D0 := Lib.hid (cell_of_row _ _ 0 _ _ _ hnd)
      have f0 := D0.out
      have f1 := cell_of_row _ _ 1 _ _ _ hnd
      clear hbld hb hb' hh hh2 hgt hsn hle hbg hE hDD hDs hx hbx hnd hsr
      go_wp2_with fail
      go_region_with (first
        | (go_at_call 41; ((with_reducible refine (HITO.out _ HWr.out).mono ?_); rintro e w2 ⟨rfl, hb2⟩; have e0 := cell_below hb2 (show World.cell? _ _ = _ from D0.out); have HBx2 := Lib.hid (HBX.out.trans (hb2.mono HBX.out.size)); clear hb2))
        | (go_at_call 40; ((with_reducible refine (HTG.out w2).mono ?_); rintro e w3 ⟨rfl, hb3⟩; have HBx3 := Lib.hid (HBx2.out.trans (hb3.mono HBx2.out.size)); have HBD3 := Lib.hid (isbld_below HBD.out HBx3.out); clear hb3))
        | (go_at_call 39; ((with_reducible refine (bwrite_calls _ _ _ _ _ HBD3.out HLE.out (Nat.le_trans HSR.out HBx3.out.size)).mono ?_); rintro e w4 ⟨rfl, h4, hb4⟩; rw [HSN.out] at h4; have H4 := Lib.hid h4; have HB4 := Lib.hid ((HB.out.trans (HBx3.out.mono HSR.out)).trans hb4); clear h4 hb4)))
      all_goals
        go_wp2_with fail
        go_roundw
        case rel => exact ⟨k + 1, hlt, by simp, .inr H4.out, HB4.out⟩
        case measure => simp [intOf]; omega
    · have hkn : n = k := by omega
      subst hkn
      have hd : decide ((n : Int) < (n : Int)) = false := decide_eq_false (by omega)
      have hall : ds.take n = ds := List.take_of_length_le (by rw [← HN.out]; exact Nat.le_refl _)
      rw [hall] at hbld
      have HBD := Lib.hid hbld
      have D1 := Lib.hid (cell_below hb' (cell_of_row _ _ 1 _ _ _ HNW.out))
      have d1 := D1.out
      clear hbld hb hb' hlt hk hall hsr
      go_wp2_with fail
      go_loopw [27] (fun i wq => ∃ j : Nat, j ≤ m ∧ i = .int .i64 (j : Int) ∧ IsBld (w.heap.size + 1) (w.heap.size + 1) (Lib.byteCells (ds.flatMap dT ++ (rs.take j).flatMap rT)) wq ∧ Below (w.heap.size + 1) (w.alloc (.cells #[.slice A n c, .slice B m d] 36)) wq) (fun i _ => m + 1 - (intOf i).toNat)
      case atStart => exact ⟨0, Nat.zero_le _, rfl, by simpa using HBD.out, HB.out⟩
      case round =>
        obtain ⟨j, hj, rfl, hbld, hb⟩ := hrel
        have hb' : Below (w.alloc (.cells #[.slice A n c, .slice B m d] 36)).heap.size (w.alloc (.cells #[.slice A n c, .slice B m d] 36)) wr := by rw [HSZ.out]; exact hb
        have hsr : w.heap.size + 1 ≤ wr.heap.size := by have := hb.size; rw [HSZ.out] at this; exact this
        have HBD2 := Lib.hid hbld
        have HB2 := Lib.hid hb
        have HSR := Lib.hid hsr
        by_cases hlt : j < m
        · have hd : decide ((j : Int) < (m : Int)) = true := decide_eq_true (by omega)
          obtain ⟨t, hx⟩ : ∃ t, rs[j]? = some t := ⟨_, List.getElem?_eq_getElem (by rw [← HM.out]; exact hlt)⟩
          obtain ⟨a, rfl, hh⟩ := HR.out j t hx
          have hh2 := hh.below hb'
          have hgt := HOR.out t (List.mem_of_getElem? hx)
          have hsn := flat_snoc rT hx
          have hle := flat_le rT rs (j + 1)
          rw [hsn, List.length_append] at hle
          have hbg := HBIG.out
          rw [prgT_eq, List.length_append] at hbg
          have hrt : (rT t).length = (ruleT t).length + 1 := by unfold rT; simp
          obtain ⟨E, hE⟩ : ∃ E, bs (ruleT t) = E := ⟨_, rfl⟩
          obtain ⟨D, hDD⟩ : ∃ D, bs (rT t) = D := ⟨_, rfl⟩
          have hDs : D.size = (rT t).length := by rw [← hDD, bs_size]
          obtain ⟨⟨Aa, na, ca, hna, hca, d0, d1, htr⟩, Bb, nb, cb, hnb, hcb, d2, hlr⟩ := hh2
          have HRU := Lib.hid (fun (W : World) (h : TermsRd W Aa t.h.a) (h2 : LitsRd W Bb t.b) (hw : TabW W) => (show Calls Tryz.prog 28 #[.agg #[.string (bs t.h.p), .slice Aa na ca, .slice Bb nb cb]] W (fun e w' => e = .returned (.string E) ∧ Below W.heap.size W w') from by rw [← hE]; exact prRule_calls Aa Bb na ca nb cb t W hna hnb h h2 hgt (by omega) hw))
          have HTG := Lib.hid (fun (W : World) => (show Calls Tryz.prog 40 #[.slice (some ⟨W.heap.size, 0, none⟩) 2 2] (W.alloc (.cells #[.string E, .string ⟨#[10]⟩] 9)) (fun e w' => e = .returned (.string D) ∧ Below W.heap.size W w') from by
            have e1 : (txs [E, bs [10]]).flatten = rT t := by rw [← hE]; simp [txs, bs_data, rT]
            have h := tog_new [E, bs [10]] W (by rw [e1]; omega) (by simp)
            rw [e1, hDD] at h
            exact h))
          have HSN := Lib.hid (show Lib.byteCells (ds.flatMap dT ++ (rs.take j).flatMap rT) ++ Lib.strCells D = Lib.byteCells (ds.flatMap dT ++ (rs.take (j + 1)).flatMap rT) by
            rw [hsn, ← List.append_assoc, byteCells_app _ (rT t), ← hDD, bsCells])
          have HLE := Lib.hid (show (Lib.byteCells (ds.flatMap dT ++ (rs.take j).flatMap rT)).length + D.size ≤ 140737488355328 by rw [Lib.byteCells_length, hDs, List.length_append]; omega)
          have hbx := (Below.refl wr.heap.size wr).alloc (Nat.le_refl _) (.cells #[.string (bs t.h.p), .slice Aa na ca, .slice Bb nb cb] 50)
          have HBX := Lib.hid hbx
          have HWr := Lib.hid ((HW.out.below hb').below hbx)
          have HTr := Lib.hid (htr.below hbx)
          have HLr := Lib.hid (hlr.below hbx)
          clear hbld hb hb' hh hgt hsn hle hbg hE hDD hDs hx hbx hsr hrt hna hca htr hnb hcb hlr
          go_wp2_with (first
            | (go_at_call 28; ((with_reducible refine (HRU.out _ HTr.out HLr.out HWr.out).mono ?_); rintro e w2 ⟨rfl, hb2⟩; have HBx2 := Lib.hid (HBX.out.trans (hb2.mono HBX.out.size)); clear hb2))
            | (go_at_call 40; ((with_reducible refine (HTG.out w2).mono ?_); rintro e w3 ⟨rfl, hb3⟩; have HBx3 := Lib.hid (HBx2.out.trans (hb3.mono HBx2.out.size)); have HBD3 := Lib.hid (isbld_below HBD2.out HBx3.out); clear hb3))
            | (go_at_call 39; ((with_reducible refine (bwrite_calls _ _ _ _ _ HBD3.out HLE.out (Nat.le_trans HSR.out HBx3.out.size)).mono ?_); rintro e w4 ⟨rfl, h4, hb4⟩; rw [HSN.out] at h4; have H4 := Lib.hid h4; have HB4 := Lib.hid ((HB2.out.trans (HBx3.out.mono HSR.out)).trans hb4); clear h4 hb4)))
          go_roundw
          case rel => exact ⟨j + 1, hlt, by simp, .inr H4.out, HB4.out⟩
          case measure => simp [intOf]; omega
        · have hjn : m = j := by omega
          subst hjn
          have hd : decide ((m : Int) < (m : Int)) = false := decide_eq_false (by omega)
          have hall : rs.take m = rs := List.take_of_length_le (by rw [← HM.out]; exact Nat.le_refl _)
          rw [hall, ← prgT_eq] at hbld
          have HBD3 := Lib.hid hbld
          clear hbld hb hb' hlt hj hall hsr
          go_wp2_with (go_at_call 42; ((with_reducible refine (Tryz.Builder_String_any_k _ _ _ _ HBD3.out HSR.out).mono ?_); rintro e w2 ⟨rfl, _, hb2, _⟩; have HB3 := Lib.hid (HB2.out.trans hb2); clear hb2))
          go_ret
          refine ⟨rfl, HBL.out.trans (HB3.out.mono (Nat.le_succ _))⟩
end Go.Proofs.YtminbdcabacfbaaGreatDoor.V

namespace Go.Proofs.YtminbdcabacfbaaGreatDoor.V
set_option linter.unusedVariables false
set_option linter.unusedSimpArgs false
open Go.RowKit

theorem terms_at_rd {W : World} {B n c : Nat} {A : Option Addr} {L : List TermL} (h : TermsAt B W L (.slice A n c)) : n = L.length ∧ n ≤ c ∧ TermsRd W A L := by
  unfold TermsAt at h
  obtain ⟨A', c', e⟩ := o_slice h
  injection e with _ e2 _
  subst e2
  exact ⟨rfl, own_cap h, terms_rd h rfl⟩
theorem lits_at_rd {W : World} {B n c : Nat} {A : Option Addr} {L : List LitL} (h : LitsAt B W L (.slice A n c)) : n = L.length ∧ n ≤ c ∧ LitsRd W A L := by
  obtain ⟨ps, rfl, ho, hp⟩ := h
  obtain ⟨A', c', e⟩ := o_slice ho
  injection e with _ e2 _
  subst e2
  refine ⟨by simp, own_cap ho, fun j t hj => ?_⟩
  rw [List.getElem?_map, Option.map_eq_some_iff] at hj
  obtain ⟨p, hpj, rfl⟩ := hj
  obtain ⟨g, rfl, hc⟩ := flat_row (fun p : LitL × Value => litC p.1 p.2) (fun x => rfl) ho rfl hpj
  have ht := hp p (List.mem_of_getElem? hpj)
  obtain ⟨A2, c2, e2⟩ := o_slice ht
  obtain ⟨k1, k2, k3⟩ := terms_at_rd (by rw [← e2]; exact ht)
  refine ⟨_, rfl, ?_⟩
  rw [addr_add]
  have h1 := fun i u hi hu => hc i u hi hu
  exact ⟨⟨(p.1.k : Int), hc 0 _ (by omega) rfl, by simp⟩, ⟨A2, _, c2, k1, k2, hc 1 _ (by omega) rfl, (hc 2 _ (by omega) rfl).trans (by rw [e2]), k3⟩, hc 3 _ (by omega) rfl,
    ⟨hc 4 _ (by omega) rfl, hc 5 _ (by omega) rfl, hc 6 _ (by omega) rfl, hc 7 _ (by omega) rfl, hc 8 _ (by omega) rfl⟩, ⟨hc 9 _ (by omega) rfl, hc 10 _ (by omega) rfl, hc 11 _ (by omega) rfl, hc 12 _ (by omega) rfl, hc 13 _ (by omega) rfl⟩⟩
theorem decls_at_rd {W : World} {B n c : Nat} {A : Option Addr} {L : List DeclL} (h : DeclsAt B W L (.slice A n c)) : n = L.length ∧ n ≤ c ∧ DeclsRd W A L := by
  unfold DeclsAt at h
  obtain ⟨A', c', e⟩ := o_slice h
  injection e with _ e2 _
  subst e2
  refine ⟨rfl, own_cap h, fun j t hj => ?_⟩
  obtain ⟨g, rfl, hc⟩ := flat_row declC (fun x => rfl) h rfl hj
  refine ⟨_, rfl, ?_⟩
  rw [addr_add]
  exact ⟨hc 0 _ (by omega) rfl, hc 1 _ (by omega) rfl⟩
theorem rules_at_rd {W : World} {B n c : Nat} {A : Option Addr} {L : List RuleL} (h : RulesAt B W L (.slice A n c)) : n = L.length ∧ n ≤ c ∧ RulesRd W A L := by
  obtain ⟨qs, rfl, ho, hq⟩ := h
  obtain ⟨A', c', e⟩ := o_slice ho
  injection e with _ e2 _
  subst e2
  refine ⟨by simp, own_cap ho, fun j t hj => ?_⟩
  rw [List.getElem?_map, Option.map_eq_some_iff] at hj
  obtain ⟨q, hqj, rfl⟩ := hj
  obtain ⟨g, rfl, hc⟩ := flat_row ruleC (fun x => rfl) ho rfl hqj
  obtain ⟨ht, hl⟩ := hq q (List.mem_of_getElem? hqj)
  obtain ⟨A2, c2, e2⟩ := o_slice ht
  obtain ⟨k1, k2, k3⟩ := terms_at_rd (by rw [← e2]; exact ht)
  obtain ⟨A3, n3, c3, e3⟩ : ∃ A3 n3 c3, q.2.2 = .slice A3 n3 c3 := by
    obtain ⟨ps, _, hp, _⟩ := hl
    obtain ⟨A3, c3, e3⟩ := o_slice hp
    exact ⟨_, _, _, e3⟩
  obtain ⟨l1, l2, l3⟩ := lits_at_rd (by rw [← e3]; exact hl)
  refine ⟨_, rfl, ?_⟩
  rw [addr_add]
  exact ⟨⟨A2, _, c2, k1, k2, hc 0 _ (by omega) rfl, (hc 1 _ (by omega) rfl).trans (by rw [e2]), k3⟩, A3, n3, c3, l1, l2, (hc 2 _ (by omega) rfl).trans (by rw [e3]), l3⟩
/-- What Parse hands back, read. -/
theorem parse7_ok {s : List UInt8} {ds : List DeclL} {rs : List RuleL} (w : World) (hp : parseL s = .ok (ds, rs)) (hs : s.length ≤ 140737488355328) (hE : ErrW w) :
    Calls Tryz.prog 20 #[.string (bs s)] w fun e w' => Below w.heap.size w w' ∧ ∃ A n c B m d, n = ds.length ∧ m = rs.length ∧ n ≤ 400 ∧ m ≤ 400 ∧ n ≤ c ∧ m ≤ d ∧ e = .returned (.tuple #[.agg #[.slice A n c, .slice B m d], .int .i64 0, .int .i64 0]) ∧ DeclsRd w' A ds ∧ RulesRd w' B rs := by
  refine (parse_calls (bs s) w (by rw [bs_size]; omega) hE).mono ?_
  rintro e w' ⟨hb, h⟩
  rw [bs_data, hp] at h
  obtain ⟨vd, vr, rfl, hd, hr, l1, l2⟩ := h
  obtain ⟨A, c, rfl⟩ := o_slice hd
  obtain ⟨B, m, d, rfl⟩ : ∃ B m d, vr = .slice B m d := by
    obtain ⟨qs, _, hq, _⟩ := hr
    obtain ⟨B, d, e⟩ := o_slice hq
    exact ⟨_, _, _, e⟩
  obtain ⟨k1, k2, k3⟩ := decls_at_rd hd
  obtain ⟨j1, j2, j3⟩ := rules_at_rd hr
  exact ⟨hb, A, _, c, B, m, d, k1, j1, l1, by rw [j1]; exact l2, k2, j2, rfl, k3, j3⟩

def ex7 : List UInt8 := [112, 40, 88, 44, 32, 39, 65, 39, 41, 32, 58, 45, 32, 113, 40, 88, 41, 44, 32, 110, 111, 116, 32, 114, 44, 32, 88, 32, 33, 61, 32, 51, 46]
def vX7 : TermL := ⟨true, [88], false, [], 0⟩
def exR7 : RuleL := ⟨⟨[112], [vX7, ⟨false, [], true, [65], 0⟩]⟩, [⟨1, ⟨[113], [vX7]⟩, [], term0, term0⟩, ⟨2, ⟨[114], []⟩, [], term0, term0⟩, ⟨3, atom0, [33, 61], vX7, ⟨false, [], false, [], 3⟩⟩]⟩
theorem ex7_parse : parseL ex7 = .ok ([], [exR7]) := by kernel_rfl
theorem ex7_rule : ruleT exR7 = ex7 := by kernel_rfl
theorem ex7_prog : prgT [] [exR7] = ex7 ++ [10] := by kernel_rfl
theorem ex7_may : mayP [] [exR7] = true := by kernel_rfl
theorem ex7_ok : RuleOk' exR7 := by
  refine ⟨⟨by decide, ?_⟩, by decide, ?_⟩
  · intro t ht
    simp [exR7] at ht
    rcases ht with rfl | rfl <;> exact ⟨by decide, by decide, by decide⟩
  · intro l hl
    have h3 : ∀ t : TermL, t = vX7 ∨ t = term0 ∨ t = ⟨false, [], false, [], 3⟩ → TermOk t := by
      rintro t (rfl | rfl | rfl) <;> exact ⟨by decide, by decide, by decide⟩
    simp [exR7] at hl
    rcases hl with rfl | rfl | rfl
    · exact ⟨⟨by decide, by intro t ht; simp at ht; subst ht; exact h3 _ (.inl rfl)⟩, h3 _ (.inr (.inl rfl)), h3 _ (.inr (.inl rfl))⟩
    · exact ⟨⟨by decide, by intro t ht; simp at ht⟩, h3 _ (.inr (.inl rfl)), h3 _ (.inr (.inl rfl))⟩
    · exact ⟨⟨by decide, by intro t ht; simp [atom0] at ht⟩, h3 _ (.inl rfl), h3 _ (.inr (.inr rfl))⟩
theorem ex7_sz : RuleSz exR7 := by
  have h3 : ∀ t : TermL, t = vX7 ∨ t = term0 ∨ t = ⟨false, [], false, [], 3⟩ ∨ t = ⟨false, [], true, [65], 0⟩ → TermSz t := by
    rintro t (rfl | rfl | rfl | rfl) <;> (unfold TermSz; decide)
  refine ⟨⟨by decide, by decide, ?_⟩, by decide, ?_⟩
  · intro t ht
    simp [exR7] at ht
    rcases ht with rfl | rfl
    · exact h3 _ (.inl rfl)
    · exact h3 _ (.inr (.inr (.inr rfl)))
  · intro l hl
    simp [exR7] at hl
    rcases hl with rfl | rfl | rfl
    · exact ⟨⟨by decide, by decide, by intro t ht; simp at ht; subst ht; exact h3 _ (.inl rfl)⟩, h3 _ (.inr (.inl rfl)), h3 _ (.inr (.inl rfl))⟩
    · exact ⟨⟨by decide, by decide, by intro t ht; simp at ht⟩, h3 _ (.inr (.inl rfl)), h3 _ (.inr (.inl rfl))⟩
    · exact ⟨⟨by decide, by decide, by intro t ht; simp [atom0] at ht⟩, h3 _ (.inl rfl), h3 _ (.inr (.inr (.inl rfl)))⟩
end Go.Proofs.YtminbdcabacfbaaGreatDoor.V

namespace Go.Proofs.YtminbdcabacfbaaGreatDoor.V
set_option linter.unusedVariables false
set_option linter.unusedSimpArgs false
open Go.RowKit

set_option maxRecDepth 100000 in
set_option maxHeartbeats 16000000 in
theorem shown7_calls (w : World) (hE : ErrW w) (hW : TabW w) :
    Calls Tryz.prog 14 #[] w fun e w' => e = .returned (.bool true) ∧ Below w.heap.size w w' := by
  have HE := Lib.hid hE
  have HW := Lib.hid hW
  have HPA := Lib.hid (fun (W : World) (h : ErrW W) => (show Calls Tryz.prog 20 #[.string ⟨#[112, 40, 88, 44, 32, 39, 65, 39, 41, 32, 58, 45, 32, 113, 40, 88, 41, 44, 32, 110, 111, 116, 32, 114, 44, 32, 88, 32, 33, 61, 32, 51, 46]⟩] W (fun e w' => Below W.heap.size W w' ∧ ∃ A n c B m d, n = ([] : List DeclL).length ∧ m = [exR7].length ∧ n ≤ 400 ∧ m ≤ 400 ∧ n ≤ c ∧ m ≤ d ∧ e = .returned (.tuple #[.agg #[.slice A n c, .slice B m d], .int .i64 0, .int .i64 0]) ∧ DeclsRd w' A [] ∧ RulesRd w' B [exR7]) from parse7_ok W ex7_parse (by decide) h))
  have hadd : ∀ W, (Op.stringOp .add (⟨#[112, 40, 88, 44, 32, 39, 65, 39, 41, 32, 58, 45, 32, 113, 40, 88, 41, 44, 32, 110, 111, 116, 32, 114, 44, 32, 88, 32, 33, 61, 32, 51, 46]⟩ : ByteArray) ⟨#[10]⟩).run Tryz.prog W = .ok (.string (bs (ex7 ++ [10]))) W := fun W => run_string_add_sum W _ _ (by decide)
  have HRU := Lib.hid (fun (Aa Ba : Option Addr) (na ca ma da : Nat) (W : World) (k1 : na = exR7.h.a.length) (k3 : ma = exR7.b.length) (h : TermsRd W Aa exR7.h.a) (h2 : LitsRd W Ba exR7.b) (hw : TabW W) => (show Calls Tryz.prog 28 #[.agg #[.string (bs exR7.h.p), .slice Aa na ca, .slice Ba ma da]] W (fun e w' => e = .returned (.string ⟨#[112, 40, 88, 44, 32, 39, 65, 39, 41, 32, 58, 45, 32, 113, 40, 88, 41, 44, 32, 110, 111, 116, 32, 114, 44, 32, 88, 32, 33, 61, 32, 51, 46]⟩) ∧ Below W.heap.size W w') from by
    have h := prRule_calls Aa Ba na ca ma da exR7 W k1 k3 h h2 ex7_ok (by rw [ex7_rule]; decide) hw
    rw [ex7_rule] at h
    exact h))
  have HPR := Lib.hid (fun (A B : Option Addr) (c d : Nat) (W : World) (hd : DeclsRd W A []) (hr : RulesRd W B [exR7]) (hw : TabW W) => (show Calls Tryz.prog 16 #[.agg #[.slice A 0 c, .slice B 1 d]] W (fun e w' => e = .returned (.string (bs (ex7 ++ [10]))) ∧ Below W.heap.size W w') from by
    have h := prProg_calls A B 0 c 1 d [] [exR7] W rfl rfl hd hr (by simp) (by intro r hr; rw [List.mem_singleton.1 hr]; exact ex7_ok) (by rw [ex7_prog]; decide) (by decide) (by decide) hw
    rw [ex7_prog] at h
    exact h))
  have HMY := Lib.hid (fun (A B : Option Addr) (c d : Nat) (W : World) (hd : DeclsRd W A []) (hr : RulesRd W B [exR7]) => (show Calls Tryz.prog 18 #[.agg #[.slice A 0 c, .slice B 1 d]] W (fun e w' => e = .returned (.bool true) ∧ Below W.heap.size W w') from by
    have h := prMay_calls A B 0 c 1 d [] [exR7] W rfl rfl hd hr (by simp) (by intro r hr; rw [List.mem_singleton.1 hr]; exact ex7_sz)
    rw [ex7_may] at h
    exact h))
  clear hE hW
  go_enter Tryz.func14, Tryz.ntmps14
  go_wp2_with (first
    | (go_at_call 20; ((with_reducible refine (HPA.out _ HE.out).mono ?_); rintro e w2 ⟨hb2, A, n, c, B, m, d, hn, hm, hn4, hm4, hnc, hmd, rfl, hd, hr⟩; (obtain rfl : m = 1 := hm); (obtain rfl : n = 0 := hn); obtain ⟨r, rfl, hrr⟩ := hr 0 exR7 rfl; have hbx := (Below.refl w2.heap.size w2).alloc (Nat.le_refl _) (.cells #[.slice A 0 c, .slice (some r) 1 d] 36); have hrx := hrr.below hbx; obtain ⟨⟨Aa, na, ca, k1, k2, x0, x1, htr⟩, Ba, ma, da, k3, k4, x2, hlr⟩ := hrx; have x0' := (show World.cell? _ r = some _ from x0); have x1' := (show World.cell? _ ⟨r.block, r.off + 1, none⟩ = some _ from x1); have x2' := (show World.cell? _ ⟨r.block, r.off + 2, none⟩ = some _ from x2); have HB2 := Lib.hid (hb2.trans (hbx.mono hb2.size)); have HD := Lib.hid (hd.below hbx); have HR := Lib.hid (hr.below hbx); have HW2 := Lib.hid ((HW.out.below hb2).below hbx); have HT := Lib.hid htr; have HL := Lib.hid hlr; have HK1 := Lib.hid k1; have HK3 := Lib.hid k3; have HP := Lib.hid (heap_alloc_new w2 (.cells #[.slice A 0 c, .slice (some r) 1 d] 36)); clear hb2 hd hr hrr hn4 hm4 hbx k1 k2 k3 k4 htr hlr))
    | (go_at_call 28; ((with_reducible refine (HRU.out _ _ _ _ _ _ _ HK1.out HK3.out HT.out HL.out HW2.out).mono ?_); rintro e w3 ⟨rfl, hb3⟩; have HB3 := Lib.hid (HB2.out.trans (hb3.mono HB2.out.size)); have HD3 := Lib.hid (HD.out.below hb3); have HR3 := Lib.hid (HR.out.below hb3); have HW3 := Lib.hid (HW2.out.below hb3); have HP3 := Lib.hid ((hb3.block w2.heap.size (by simp)).trans HP.out); have y0 := cell_of_row _ _ 0 _ _ _ HP3.out; have y1 := cell_of_row _ _ 1 _ _ _ HP3.out; clear hb3))
    | (go_at_call 16; ((with_reducible refine (HPR.out _ _ _ _ _ HD3.out HR3.out HW3.out).mono ?_); rintro e w4 ⟨rfl, hb4⟩; have HB4 := Lib.hid (HB3.out.trans (hb4.mono HB3.out.size)); have HD4 := Lib.hid (HD3.out.below hb4); have HR4 := Lib.hid (HR3.out.below hb4); have z0 := cell_below hb4 (cell_of_row _ _ 0 _ _ _ HP3.out); have z1 := cell_below hb4 (cell_of_row _ _ 1 _ _ _ HP3.out); clear hb4))
    | (go_at_call 18; ((with_reducible refine (HMY.out _ _ _ _ _ HD4.out HR4.out).mono ?_); rintro e w5 ⟨rfl, hb5⟩; have HB5 := Lib.hid (HB4.out.trans (hb5.mono HB4.out.size)); clear hb5)))
  go_ret
  exact ⟨rfl, HB5.out⟩
end Go.Proofs.YtminbdcabacfbaaGreatDoor.V

namespace Go.Proofs.YtminbdcabacfbaaGreatDoor.V
set_option linter.unusedVariables false
set_option linter.unusedSimpArgs false
open Go.RowKit

/-- A program that lies at two slices. -/
structure ProgAt (w : World) (A : Option Addr) (n c : Nat) (B : Option Addr) (m d : Nat) (ds : List DeclL) (rs : List RuleL) : Prop where
  hn : n = ds.length
  hm : m = rs.length
  hd : DeclsRd w A ds
  hr : RulesRd w B rs
theorem ProgAt.below {w w' : World} {A B : Option Addr} {n c m d : Nat} {ds : List DeclL} {rs : List RuleL} (h : ProgAt w A n c B m d ds rs) (hb : Below w.heap.size w w') : ProgAt w' A n c B m d ds rs := ⟨h.hn, h.hm, h.hd.below hb, h.hr.below hb⟩
theorem ProgOk.ruleOk {ds : List DeclL} {rs : List RuleL} (h : ProgOk ds rs) : ∀ r ∈ rs, RuleOk' r := fun r hr => by
  have h1 := h.w
  have h2 := sum_mem wR hr
  unfold wP at h1
  obtain ⟨l1, l2, l3⟩ := h.l r hr
  exact ruleOk_of (h.n.2 r hr) (by omega) l1 l2 l3
theorem ProgOk.ruleSz {ds : List DeclL} {rs : List RuleL} (h : ProgOk ds rs) : ∀ r ∈ rs, RuleSz r := fun r hr => by
  have h1 := h.w
  have h2 := sum_mem wR hr
  unfold wP at h1
  obtain ⟨l1, l2, l3⟩ := h.l r hr
  exact ruleSz_of (by omega) l1 l2 l3
theorem ProgOk.declSz {ds : List DeclL} {rs : List RuleL} (h : ProgOk ds rs) : ∀ d ∈ ds, DeclSz d := fun d hd => by
  have h1 := h.w
  have h2 : d.p.length + 30 ≤ (ds.map wD).sum := sum_mem wD hd
  unfold wP at h1
  unfold DeclSz
  omega
theorem p7Prog (A B : Option Addr) (n c m d : Nat) (ds : List DeclL) (rs : List RuleL) (w : World) (h : ProgAt w A n c B m d ds rs) (ok : ProgOk ds rs) (hw : TabW w) :
    Calls Tryz.prog 16 #[.agg #[.slice A n c, .slice B m d]] w fun e w' => e = .returned (.string (bs (prgT ds rs))) ∧ Below w.heap.size w w' :=
  prProg_calls A B n c m d ds rs w h.hn h.hm h.hd h.hr ok.n.1 ok.ruleOk (by have := lenT_prog ds rs ok.n; have := ok.w; omega) (by rw [h.hn]; have := ok.d; omega) (by rw [h.hm]; have := ok.r; omega) hw
theorem p7May (A B : Option Addr) (n c m d : Nat) (ds : List DeclL) (rs : List RuleL) (w : World) (h : ProgAt w A n c B m d ds rs) (ok : ProgOk ds rs) :
    Calls Tryz.prog 18 #[.agg #[.slice A n c, .slice B m d]] w fun e w' => e = .returned (.bool (mayP ds rs)) ∧ Below w.heap.size w w' :=
  prMay_calls A B n c m d ds rs w h.hn h.hm h.hd h.hr ok.declSz ok.ruleSz
end Go.Proofs.YtminbdcabacfbaaGreatDoor.V
