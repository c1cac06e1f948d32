/- What a program is in memory; (*parser).declares. -/
import Derived.Test.YthhfjimhfehimaaDoorBody
namespace Go.Proofs.YthhfjimhfehimaaDoor.V
set_option linter.unusedVariables false
set_option linter.unusedSimpArgs false
open Go.RowKit

def declC (d : DeclL) : List Value := [.string (bs d.p), .int .i64 d.n]
def DeclsAt (base : Nat) (W : World) (ds : List DeclL) (v : Value) : Prop := W.ownsRow base 66 2 v ds.length (ds.flatMap declC)
def ruleC (q : RuleL × Value × Value) : List Value := [.string (bs q.1.h.p), q.2.1, q.2.2]
def RulesAt (base : Nat) (W : World) (rs : List RuleL) (v : Value) : Prop := ∃ qs : List (RuleL × Value × Value), qs.map (·.1) = rs ∧ W.ownsRow base 36 3 v qs.length (qs.flatMap ruleC) ∧ ∀ q ∈ qs, TermsAt base W q.1.h.a q.2.1 ∧ LitsAt base W q.1.b q.2.2
theorem o_keptR {W W' : World} {B e z n : Nat} {v : Value} {xs : List Value} {row : Option Nat} (h : W.ownsRow B e z v n xs) (hg : W.grownBy W' row) (hr : ∀ k, row = some k → k < B ∨ ∃ C t m, W.heap[k]? = some (.cells C t m) ∧ t ≠ e) : W'.ownsRow B e z v n xs := by
  refine h.kept hg ?_
  cases hv : v.ownBlock with
  | none => exact .inl rfl
  | some g =>
    refine .inr (fun he => ?_)
    rcases hr g he.symm with h1 | ⟨C, t, m, hc, ht⟩
    · have := o_from h g hv
      omega
    · exact o_ne h hc (fun e => ht e.symm) hv.symm
theorem DeclsAt.kept {base : Nat} {W W' : World} {l : List DeclL} {v : Value} {row : Option Nat} (h : DeclsAt base W l v) (hg : W.grownBy W' row) (hr : ∀ k, row = some k → k < base ∨ ∃ C t m, W.heap[k]? = some (.cells C t m) ∧ t ≠ 66) : DeclsAt base W' l v := o_keptR h hg hr
theorem RulesAt.kept {base : Nat} {W W' : World} {l : List RuleL} {v : Value} {row : Option Nat} (h : RulesAt base W l v) (hg : W.grownBy W' row) (hr : ∀ k, row = some k → k < base ∨ ∃ C t m, W.heap[k]? = some (.cells C t m) ∧ t ≠ 41 ∧ t ≠ 43 ∧ t ≠ 36) : RulesAt base W' l v := by
  obtain ⟨qs, h1, h2, h3⟩ := h
  refine ⟨qs, h1, o_keptR h2 hg (fun k hk => ?_), fun q hq => ⟨(h3 q hq).1.kept hg (fun k hk => ?_), (h3 q hq).2.kept hg (fun k hk => ?_)⟩⟩
  all_goals
    rcases hr k hk with h | ⟨C, t, m, hc, t1, t2, t3⟩
    · exact .inl h
    · exact .inr ⟨C, t, m, hc, by first | exact t3 | exact t1 | exact ⟨t1, t2⟩⟩
/-- A program's block. -/
structure GAt (base G : Nat) (W : World) (ds : List DeclL) (rs : List RuleL) (Ad Ar : Option Addr) (cd cr : Nat) : Prop where
  b : W.heap[G]? = some (.cells #[.slice Ad ds.length cd, .slice Ar rs.length cr] 26 (0, 0))
  d : DeclsAt base W ds (.slice Ad ds.length cd)
  r : RulesAt base W rs (.slice Ar rs.length cr)
theorem GAt.kept {base G : Nat} {W W' : World} {ds : List DeclL} {rs : List RuleL} {Ad Ar : Option Addr} {cd cr P : Nat} (h : GAt base G W ds rs Ad Ar cd cr) (hg : W.grownBy W' (some P)) (hP : P < base) (hGP : G ≠ P) : GAt base G W' ds rs Ad Ar cd cr :=
  ⟨blk_keep h.b hg (by simpa using hGP), h.d.kept hg (fun k hk => by cases hk; exact .inl hP), h.r.kept hg (fun k hk => by cases hk; exact .inl hP)⟩
def clauseM (N : Nat) (ds : List DeclL) (rs : List RuleL) (r : List TP) : Par (List DeclL × List RuleL) :=
  if isM N r 1 [47] then (if ds.length == 400 then .bad (pk N r 0).2 4 else (declP N r).map fun d => (ds ++ [d], rs))
  else (if rs.length == 400 then .bad (pk N r 0).2 4 else (ruleP N r).map fun c => (ds, rs ++ [c]))
theorem progT_step (N : Nat) (ds : List DeclL) (rs : List RuleL) (x : TP) (r : List TP) : progT N ds rs (x :: r) = match clauseM N ds rs (x :: r) with
    | .bad a e => .bad a e
    | .ok g r1 => progT N g.1 g.2 r1 := by
  rw [progT_cons]
  unfold clauseM
  have hpk : (pk N (x :: r) 0).2 = x.2 := rfl
  rw [hpk]
  split
  · split
    · rfl
    · cases declP N (x :: r) <;> rfl
  · split
    · rfl
    · cases ruleP N (x :: r) <;> rfl
theorem mark_rel {α : Type} {P : Nat} {L : List TP} {N : Nat} {A : Option Addr} {c mm : Nat} {W : World} {m : List UInt8} {r : List TP} (x : α) (h : PGot P L N A c mm (markP N m () r) (fun _ => True) W) : PGot P L N A c mm (markP N m x r) (fun y => y = x) W := by
  unfold markP at *
  split
  · rename_i hc
    rw [if_pos hc] at h
    exact ⟨rfl, h.2⟩
  · rename_i hc
    rw [if_neg hc] at h
    exact h
theorem decl_info : (Tryd.prog.info? 66).map (fun i => (i.zero, i.size, i.bytes)) = some (some (.agg #[.string ⟨#[]⟩, .int .i64 0]), 2, 24) := by kernel_rfl
theorem rule_info : (Tryd.prog.info? 36).map (fun i => (i.zero, i.size, i.bytes)) = some (some (.agg #[.string ⟨#[]⟩, .slice none 0 0, .slice none 0 0]), 3, 64) := by kernel_rfl
theorem name_tail {N : Nat} {r r1 : List TP} {p : List UInt8} (h : nameP N r = .ok p r1) : r1 = r.tail := by
  unfold nameP at h
  split at h
  · simp only [Par.ok.injEq] at h
    exact h.2.symm
  · simp at h
theorem slash_in {N : Nat} {L : List TP} {nx : Nat} {mb : List UInt8} (h : isM N (L.drop nx) 1 mb = true) : nx + 1 < L.length := by
  unfold isM at h
  simp only [Bool.and_eq_true, beq_iff_eq] at h
  by_cases hl : nx + 1 < L.length
  · exact hl
  · rw [pk_out (by omega)] at h
    exact absurd h.1 (by simp [eofT])

set_option maxRecDepth 100000 in
set_option maxHeartbeats 4000000 in
theorem declares_calls {P : Nat} {L : List TP} {N nx : Nat} {pl bad : Int} {A : Option Addr} {c : Nat} (v : Bool) (w : World) (h : PS P L N nx pl bad A c w) (hv : isM N (L.drop nx) 1 [47] = v) :
    Calls Tryd.prog 18 #[.pointer (some ⟨P, 0, none⟩)] w fun e w' => e = .returned (.bool v) ∧ Below w.heap.size w w' := by
  obtain ⟨⟨⟨k, s, n, q⟩, a⟩, hp⟩ : ∃ p, pk N (L.drop nx) 1 = p := ⟨_, rfl⟩
  obtain ⟨K, hK⟩ : ∃ K : Int, (k : Int) = K := ⟨_, rfl⟩
  have HK := Lib.hid hK
  unfold isM at hv
  rw [hp] at hv
  have HS := Lib.hid h
  have HP := Lib.hid hp
  have HV := Lib.hid hv
  clear h hv hp hK
  cases h4 : (K == 4) with
  | false =>
    have HT := Lib.hid (k_no (n := 4) HK.out h4 rfl)
    go_enter Tryd.func18, Tryd.ntmps18
    go_wp2_with (go_at_call 16; ((with_reducible refine (peekK1_calls K k s n q a _ HS.out HP.out HK.out).mono ?_); rintro e w1 ⟨rfl, hb1⟩; have HB1 := Lib.hid hb1; clear hb1))
    go_ret
    exact ⟨by rw [← HV.out, HT.out]; rfl, HB1.out.alloc HB1.out.size _⟩
  | true =>
    have HT := Lib.hid (k_yes (n := 4) HK.out h4 rfl)
    obtain rfl : K = 4 := by simpa using h4
    clear h4
    cases hs : ((bs s).toList == [47]) with
    | true =>
      have HS2 := Lib.hid (show (s == [47]) = true by rw [← bs_list s]; exact hs)
      go_enter Tryd.func18, Tryd.ntmps18
      go_wp2_with (go_at_call 16; ((with_reducible refine (peekK1_calls 4 k s n q a _ HS.out HP.out HK.out).mono ?_); rintro e w1 ⟨rfl, hb1⟩; have HB1 := Lib.hid hb1; clear hb1))
      go_ret
      exact ⟨by rw [← HV.out, HT.out, HS2.out]; rfl, HB1.out.alloc HB1.out.size _⟩
    | false =>
      have HS2 := Lib.hid (show (s == [47]) = false by rw [← bs_list s]; exact hs)
      go_enter Tryd.func18, Tryd.ntmps18
      go_wp2_with (go_at_call 16; ((with_reducible refine (peekK1_calls 4 k s n q a _ HS.out HP.out HK.out).mono ?_); rintro e w1 ⟨rfl, hb1⟩; have HB1 := Lib.hid hb1; clear hb1))
      go_ret
      exact ⟨by rw [← HV.out, HT.out, HS2.out]; rfl, HB1.out.alloc HB1.out.size _⟩
end Go.Proofs.YthhfjimhfehimaaDoor.V
