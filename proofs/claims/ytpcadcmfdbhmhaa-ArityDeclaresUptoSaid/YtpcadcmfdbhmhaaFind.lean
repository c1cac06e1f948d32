/- arity.Find answers as the plain search does: for every list of declarations and every name. No condition. -/
import Derived.Test.YtpcadcmfdbhmhaaPx0
import Derived.Lib.Hide
namespace Go.Proofs.Ytpcadcmfdbhmhaa.P
open Go.RowKit Go.Proofs.YtpcadcmfdbhmhaaW.PrintWords Go.Proofs.YtpcadcmfdbhmhaaW.PrintLast Go.Proofs.YtpcadcmfdbhmhaaW.PrintMore

/-- The first of that name. -/
def findD : List S39 → ByteArray → Option Int
  | [], _ => none
  | d :: l, p => if d.f0 = p then some d.f1 else findD l p
def foundD (l : List S39) (p : ByteArray) : Int × Bool := match findD l p with
  | some n => (n, true)
  | none => (0, false)
def arity_Find.f (l0 : List S39) (a1 : ByteArray) : Option (Int × Bool) := some (foundD l0 a1)

theorem bytes_eq {a b : ByteArray} (h : a.toList = b.toList) : a = b := by
  rw [ByteArray.toList_eq, ByteArray.toList_eq] at h
  cases a; cases b
  congr 1
  exact Array.toList_inj.mp (by simpa using h)
set_option maxHeartbeats 2000000 in
theorem pred_calls (d : S39) (p : ByteArray) (B : Nat) (w : World) (hB : w.cell? ⟨B, 0, none⟩ = some (.string p)) :
    Calls Try.prog 19 #[.agg #[.string d.f0, .int .i64 d.f1], .pointer (some ⟨B, 0, none⟩)] w fun e w' => e = .returned (.bool (decide (d.f0 = p))) ∧ Below w.heap.size w w' := by
  have hlt := World.block_lt_of_cell? w _ hB
  have h1 := pw_cell_below (below_alloc (Below.refl w.heap.size w) (.cells #[.string d.f0, .int .i64 d.f1] 39)) hB
  go_enter Try.func19, Try.ntmps19
  go_wp2
  go_ret
  refine ⟨?_, below_alloc (Below.refl _ _) _⟩
  have e : (d.f0.toList == p.toList) = decide (d.f0 = p) := by
    rw [Bool.eq_iff_iff, beq_iff_eq, decide_eq_true_eq]
    exact ⟨fun h => bytes_eq h, fun h => by rw [h]⟩
  rw [← e]
  rfl

/-- How many of the front don't have that name. -/
theorem at39 {w : World} {A : Option Addr} {l : List S39} (h : Kd.C k39 w A l.length l) {k : Nat} (hk : k < l.length) : ∃ ad, A = some ad ∧ w.cell? (ad.add (k * 2)) = some (.string (rd_T39 l (k : Int)).f0) ∧ w.cell? ⟨(ad.add (k * 2)).block, (ad.add (k * 2)).off + 1, none⟩ = some (.int .i64 (rd_T39 l (k : Int)).f1) := by
  have := at_T39 h (k : Int) (by omega) (by omega)
  simpa using this
theorem rd39 {l : List S39} {k : Nat} (hk : k < l.length) : l.drop k = rd_T39 l (k : Int) :: l.drop (k + 1) := by
  rw [List.drop_eq_getElem_cons hk]
  simp [rd_T39, List.getD_eq_getElem?_getD, hk]

/-- Where the first of that name stands; -1: nowhere. -/
def placeD (l : List S39) (p : ByteArray) (r : Int) : Prop := (r = -1 ∧ findD l p = none) ∨ ∃ k : Nat, r = k ∧ k < l.length ∧ findD l p = some (rd_T39 l (k : Int)).f1
def IdxPost (l : List S39) (p : ByteArray) (w : World) (e : Ending) (w' : World) : Prop := ∃ r, e = .returned (.int .i64 r) ∧ placeD l p r ∧ Below w.heap.size w w'

set_option maxHeartbeats 4000000 in
set_option maxRecDepth 100000 in
theorem index_calls (A : Option Addr) (c : Nat) (l : List S39) (p : ByteArray) (B : Nat) (w : World) (hC : Kd.C k39 w A l.length l) (hB : w.cell? ⟨B, 0, none⟩ = some (.string p)) :
    Calls Try.prog 18 #[.slice A l.length c, .func (.func 19) #[] #[.pointer (some ⟨B, 0, none⟩)]] w (IdxPost l p w) := by
  have hlen : l.length ≤ 9223372036854775807 := hC.2.1
  have HC := Aside0.mk hC
  clear hC
  go_enter Try.func18, Try.ntmps18
  go_wp2
  go_loopw [8] (fun i wr => ∃ k : Nat, k ≤ l.length ∧ i = .int .i64 k ∧ findD l p = findD (l.drop k) p ∧ Below w.heap.size w wr) (fun i _ => l.length - (intOf i).toNat)
  case atStart => exact ⟨0, by omega, rfl, rfl, Below.refl _ _⟩
  case round =>
    obtain ⟨k, hk, rfl, hf, hb⟩ := hrel
    have HF := Aside0.mk hf
    have HB := Aside0.mk hb
    clear hf hb
    by_cases hlt : k < l.length
    · obtain ⟨ad, rfl, c0, c1⟩ := at39 HC.out hlt
      have HD := Aside0.mk (rd39 hlt)
      have HP := Aside0.mk (rfl : rd_T39 l (k : Int) = rd_T39 l (k : Int))
      obtain ⟨d, hd⟩ : ∃ d, d = rd_T39 l (k : Int) := ⟨_, rfl⟩
      have HE := Aside0.mk hd
      rw [← hd] at c0 c1 HD
      clear hd HP
      have d0 := pw_cell_below HB.out c0
      have d1 := pw_cell_below HB.out c1
      have hB1 := pw_cell_below HB.out hB
      by_cases hq : d.f0 = p
      · have hqd : decide (d.f0 = p) = true := by simpa using hq
        have HQ := Aside0.mk hq
        clear hq
        go_wp2_with fail
        refine (pred_calls d p B _ hB1).mono ?_
        rintro e w' ⟨rfl, hb⟩
        rw [hqd]
        clear hqd
        go_wp2
        go_ret
        refine ⟨(k : Int), rfl, .inr ⟨k, rfl, hlt, ?_⟩, below_step HB.out hb⟩
        rw [HF.out, HD.out, ← HE.out, findD, if_pos HQ.out]
      · have hqd : decide (d.f0 = p) = false := by simpa using hq
        have HQ := Aside0.mk hq
        clear hq
        go_wp2_with fail
        refine (pred_calls d p B _ hB1).mono ?_
        rintro e w' ⟨rfl, hb⟩
        rw [hqd]
        clear hqd
        go_wp2
        go_roundw
        case rel => exact ⟨k + 1, by omega, by go_num, by rw [HF.out, HD.out, findD, if_neg HQ.out], below_step HB.out hb⟩
        case measure => simp [intOf]; omega
    · go_wp2
      go_ret
      refine ⟨-1, rfl, .inl ⟨rfl, ?_⟩, HB.out⟩
      rw [HF.out, List.drop_eq_nil_of_le (by omega)]
      rfl

set_option maxHeartbeats 4000000 in
set_option maxRecDepth 100000 in
theorem arity_Find.calls (A0 : Option Addr) (c0 : Nat) (l0 : List (S39)) (a1 : ByteArray) (r1 : Int) (r2 : Bool) (w : World) (hr0 : Kd.C k39 w A0 l0.length l0) (_hc0 : l0.length ≤ c0) (h : arity_Find.f l0 a1 = some (r1, r2)) :
    Calls Try.prog 12 #[.slice A0 l0.length c0, .string a1] w fun e w' => e = .returned (.tuple #[.int .i64 r1, .bool r2]) ∧ Below w.heap.size w w' := by
  have HR := Aside0.mk hr0
  have H := Aside0.mk (Option.some.inj h)
  clear hr0 h
  have hb := blk_new w (.cells #[.string a1] 9 (0, 0))
  have hB := (blk_cell hb 0).trans rfl
  have HA := Aside0.mk (below_alloc (Below.refl w.heap.size w) (.cells #[.string a1] 9))
  go_enter Try.func12, Try.ntmps12
  go_wp2_with fail
  refine (index_calls A0 c0 l0 a1 w.heap.size _ (Kd.C_below HR.out HA.out) hB).mono ?_
  rintro e w' ⟨r, rfl, hp, hb'⟩
  have HB := Aside0.mk (below_step HA.out hb')
  clear hb hB hb'
  rcases hp with ⟨rfl, hn⟩ | ⟨k, rfl, hk, hs⟩
  · have HN := Aside0.mk hn
    clear hn
    go_wp2
    go_ret2
    refine ⟨?_, HB.out⟩
    have := H.out
    simp only [foundD, HN.out] at this
    obtain ⟨rfl, rfl⟩ := Prod.mk.inj this
    rfl
  · have HS := Aside0.mk hs
    clear hs
    obtain ⟨ad, rfl, c0, c1⟩ := at39 HR.out hk
    have d1 := pw_cell_below HB.out c1
    clear c0 c1
    go_wp2
    go_ret2
    refine ⟨?_, HB.out⟩
    have := H.out
    simp only [foundD, HS.out] at this
    obtain ⟨rfl, rfl⟩ := Prod.mk.inj this
    rfl
end Go.Proofs.Ytpcadcmfdbhmhaa.P
