/- (*parser).clause whole; parsing; how long a token's text is. -/
import Derived.Test.YthhfjimhfehimaaDoorClB
namespace Go.Proofs.YthhfjimhfehimaaDoor.V
set_option linter.unusedVariables false
set_option linter.unusedSimpArgs false
open Go.RowKit

theorem clause_calls {P : Nat} {L : List TP} {N : Nat} {A : Option Addr} {c base G B : Nat} {ds : List DeclL} {rs : List RuleL} {Ad Ar : Option Addr} {cd cr : Nat} {r : List TP} (w : World) (h : PO P L N A c r w) (hmax : ∀ p ∈ L, p.1.s.length ≤ 65536) (hga : GAt base G w ds rs Ad Ar cd cr)
    (hPb : P < base) (hGb : G < base) (hGP : G ≠ P) (hbase : base ≤ w.heap.size) (hBP : B ≤ P) (hBG : B ≤ G) (hds : ds.length ≤ 400) (hrs : rs.length ≤ 400) :
    Calls Tryd.prog 13 #[.pointer (some ⟨P, 0, none⟩), .pointer (some ⟨G, 0, none⟩)] w fun e w' => e = .returned (.tuple #[]) ∧ Below B w w' ∧ ∃ ds' rs' Ad' Ar' cd' cr', GAt base G w' ds' rs' Ad' Ar' cd' cr' ∧ PGot P L N A c 66000 (clauseM N ds rs r) (fun y => y = (ds', rs')) w' := by
  obtain ⟨nx, hnx, rfl, hS⟩ := h
  obtain ⟨⟨⟨k, s, n, q⟩, a⟩, hp⟩ : ∃ p, pk N (L.drop nx) 0 = p := ⟨_, rfl⟩
  cases hv : isM N (L.drop nx) 1 [47] with
  | true =>
    cases h4 : (((ds.length : Nat) : Int) == 400) with
    | true => exact clause_dfull w hnx hS hmax hga hPb hGb hGP hbase hBP hBG hds hrs k s n q a hp hv h4
    | false =>
      cases ho : nameP N (L.drop nx) with
      | bad a0 e0 => exact clause_dname w hnx hS hmax hga hPb hGb hGP hbase hBP hBG hds hrs k s n q a hp hv h4 a0 e0 ho
      | ok p0 r1 =>
        cases hr : arityP N r1.tail with
        | bad a0 e0 => exact clause_darity w hnx hS hmax hga hPb hGb hGP hbase hBP hBG hds hrs k s n q a hp hv h4 p0 r1 ho a0 e0 hr
        | ok m0 r2 => exact clause_ddecl w hnx hS hmax hga hPb hGb hGP hbase hBP hBG hds hrs k s n q a hp hv h4 p0 r1 ho m0 r2 hr
  | false =>
    cases h4 : (((rs.length : Nat) : Int) == 400) with
    | true => exact clause_rfull w hnx hS hmax hga hPb hGb hGP hbase hBP hBG hds hrs k s n q a hp hv h4
    | false =>
      cases ho : atomP N (L.drop nx) with
      | bad a0 e0 => exact clause_ratom w hnx hS hmax hga hPb hGb hGP hbase hBP hBG hds hrs k s n q a hp hv h4 a0 e0 ho
      | ok h0 r1 =>
        cases hi0 : isM N r1 0 [58, 45] with
        | false => exact clause_rhead w hnx hS hmax hga hPb hGb hGP hbase hBP hBG hds hrs k s n q a hp hv h4 h0 r1 ho hi0
        | true =>
          cases hs : someP (litP N) N 8 r1.tail with
          | bad a0 e0 => exact clause_rbody w hnx hS hmax hga hPb hGb hGP hbase hBP hBG hds hrs k s n q a hp hv h4 h0 r1 r1.tail ho hi0 rfl a0 e0 hs
          | ok b0 r3 => exact clause_rrule w hnx hS hmax hga hPb hGb hGP hbase hBP hBG hds hrs k s n q a hp hv h4 h0 r1 r1.tail ho hi0 rfl b0 r3 hs

theorem quotL_max : ∀ (n : Nat) (l : List UInt8), l.length ≤ n → ∀ b r, quotL l = some (b, r) → b.length ≤ l.length := by
  intro n
  induction n with
  | zero =>
    intro l hl b r h
    match l, hl with
    | [], _ => simp [quotL] at h
  | succ n ih =>
    intro l hl b r h
    match l with
    | [] => simp [quotL] at h
    | [c] =>
      unfold quotL at h
      split at h
      · simp at h; rw [← h.1]; simp
      · simp at h
    | c :: d :: u =>
      unfold quotL at h
      split at h
      · simp only [Option.some.injEq, Prod.mk.injEq] at h; rw [← h.1]; simp
      · split at h
        · simp at h
        · split at h
          · split at h
            · simp only [Option.map_eq_some_iff] at h
              obtain ⟨p, hp, he⟩ := h
              have := ih u (by simp at hl; omega) p.1 p.2 hp
              simp at he
              rw [← he.1]; simp; omega
            · simp at h
          · simp only [Option.map_eq_some_iff] at h
            obtain ⟨p, hp, he⟩ := h
            have := ih (d :: u) (by simp at hl ⊢; omega) p.1 p.2 hp
            simp at he this
            rw [← he.1]; simp; omega
theorem oneL_max {c : UInt8} {t : List UInt8} {k : Tok} {r : List UInt8} (h : oneL c t = .tok k r) : k.s.length ≤ (c :: t).length := by
  have hn : ∀ kk, namedL kk (c :: t) = .tok k r → k.s.length ≤ (c :: t).length := by
    intro kk h
    unfold namedL at h
    split at h
    · simp at h
    · simp only [Got.tok.injEq] at h
      rw [← h.1]
      exact (List.takeWhile_prefix _).length_le
  unfold oneL at h
  split at h
  · exact hn 1 h
  · split at h
    · exact hn 2 h
    · split at h
      · unfold numL at h
        split at h
        · simp only [Got.tok.injEq] at h
          rw [← h.1]; simp
        · simp at h
      · split at h
        · cases hq : quotL t with
          | none => rw [hq] at h; simp [qres] at h
          | some p =>
            rw [hq] at h
            simp only [qres, Got.tok.injEq] at h
            have := quotL_max _ t (Nat.le_refl _) p.1 p.2 hq
            rw [← h.1]
            simp
            omega
        · unfold markL at h
          split at h
          · simp only [Got.tok.injEq] at h
            rw [← h.1]
            exact (List.take_prefix 2 _).length_le
          · split at h
            · simp only [Got.tok.injEq] at h
              rw [← h.1]
              exact (List.take_prefix 1 _).length_le
            · simp at h
theorem scanF_max : ∀ (f N : Nat) (l : List UInt8) (ts : List TP), scanF f N l = .ok ts → ∀ p ∈ ts, p.1.s.length ≤ l.length := by
  intro f
  induction f with
  | zero => intro N l ts h p hp; simp [scanF] at h; rw [h] at hp; cases hp
  | succ f ih =>
    intro N l ts h p hp
    unfold scanF at h
    have hs := skipR_le l false
    split at h
    · simp at h; rw [h] at hp; cases hp
    · rename_i c t hc
      rw [hc] at hs
      split at h
      · simp at h
      · rename_i k r ho
        cases hr : scanF f N r with
        | bad a e => rw [hr] at h; simp [Scan.cons] at h
        | ok us =>
          rw [hr] at h
          simp only [Scan.cons, Scan.ok.injEq] at h
          rw [← h] at hp
          rcases List.mem_cons.1 hp with rfl | hp
          · exact Nat.le_trans (oneL_max ho) hs
          · have := ih N r us hr p hp
            have := oneL_lt c t k r ho
            omega
theorem scanL_max {s : List UInt8} {ts : List TP} (h : scanL s = .ok ts) : ∀ p ∈ ts, p.1.s.length ≤ 65536 := by
  unfold scanL at h
  split at h
  · simp at h
  · intro p hp
    have := scanF_max _ _ _ _ h p hp
    omega

/-- What parsing hands back. -/
def ParsingIs (s : ByteArray) (w : World) (e : Ending) (w' : World) : Prop :=
  ∃ P, e = .returned (.pointer (some ⟨P, 0, none⟩)) ∧ w.heap.size ≤ P ∧ Below w.heap.size w w' ∧ match scanL s.data.toList with
    | .bad a n => n ≠ 0 ∧ w'.heap[P]? = some (.cells #[.slice none 0 0, .int .i64 0, .int .i64 (s.size : Int), .int .i64 (a : Int), .int .i64 (n : Int)] 54 (0, 0))
    | .ok l => ∃ A c, PS P l s.size 0 0 0 A c w'
theorem scan_bad {s : List UInt8} {a n : Nat} (h : scanL s = .bad a n) : n ≠ 0 := by
  have key : ∀ f N l a n, scanF f N l = .bad a n → n ≠ 0 := by
    intro f
    induction f with
    | zero => intro N l a n h; simp [scanF] at h
    | succ f ih =>
      intro N l a n h
      unfold scanF at h
      split at h
      · simp at h
      · split at h
        · rename_i e he
          simp at h
          have := oneL_bad he
          omega
        · rename_i k r ho
          cases hr : scanF f N r with
          | bad a' e' => rw [hr] at h; simp [Scan.cons] at h; rw [← h.2]; exact ih _ _ _ _ hr
          | ok us => rw [hr] at h; simp [Scan.cons] at h
  unfold scanL at h
  split at h
  · simp at h; omega
  · exact key _ _ _ _ _ h
theorem scan_size {s : List UInt8} {l : List TP} (h : scanL s = .ok l) : s.length ≤ 65536 := by
  unfold scanL at h
  split at h
  · simp at h
  · omega

set_option maxRecDepth 100000 in
set_option maxHeartbeats 4000000 in
theorem parsing_calls (s : ByteArray) (w : World) (hs : s.size ≤ 9223372036854775807) (hE : ErrW w) :
    Calls Tryd.prog 11 #[.string s] w (ParsingIs s w) := by
  have HE := Lib.hid hE
  clear hE
  cases ho : scanL s.data.toList with
  | bad a n =>
    have HO := Lib.hid ho
    have HN := Lib.hid (scan_bad ho)
    clear ho
    go_enter Tryd.func11, Tryd.ntmps11
    go_wp2_with (go_at_call 17; ((with_reducible refine (scan_calls s _ hs HE.out).mono ?_); rintro e w1 ⟨hb, hsc⟩; rw [HO.out] at hsc; have hsc2 : e = .returned (.tuple #[.slice none 0 0, .int .i64 (a : Int), .int .i64 (n : Int)]) := hsc; subst hsc2; have HB := Lib.hid hb; clear hsc hb))
    go_ret
    refine ⟨w1.heap.size, rfl, HB.out.size, HB.out.alloc HB.out.size _, ?_⟩
    rw [HO.out]
    exact ⟨HN.out, heap_alloc_new w1 _⟩
  | ok l =>
    have HO := Lib.hid ho
    clear ho
    go_enter Tryd.func11, Tryd.ntmps11
    go_wp2_with (go_at_call 17; ((with_reducible refine (scan_calls s _ hs HE.out).mono ?_); rintro e w1 ⟨hb, hsc⟩; rw [HO.out] at hsc; obtain ⟨v, he, hown, _, hl⟩ := hsc; obtain ⟨A1, c1, rfl⟩ := o_slice hown; subst he; have HB := Lib.hid hb; have HOWN := Lib.hid hown; have HL := Lib.hid hl; clear hown hb hl))
    go_ret
    refine ⟨w1.heap.size, rfl, HB.out.size, HB.out.alloc HB.out.size _, ?_⟩
    rw [HO.out]
    have h1 := scan_size HO.out
    exact ⟨A1, c1, heap_alloc_new w1 _, (o_base HOWN.out (Nat.zero_le _)).alloc _, HL.out, by simpa using h1, by omega⟩
end Go.Proofs.YthhfjimhfehimaaDoor.V
