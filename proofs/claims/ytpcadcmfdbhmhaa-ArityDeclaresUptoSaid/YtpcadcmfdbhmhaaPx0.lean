-- A text of this claim, laid by a program of mine over the kit's printer (myprint.py), stubs by hand.
import Derived.Test.YtpcadcmfdbhmhaaProg
import Derived.Below
import Derived.Deep.Draws
import Derived.Deep.AppendLies
import Derived.Maps.AppendAt
import Derived.OwnWalk
import Derived.Laws.BytesArg
import Derived.Laws.MakeOwn
import Derived.Laws.OwnMore
import Derived.Deep.OwnRows
import Derived.Tactics
import Derived.Lib.ConvBytes
import Derived.Laws.Slices
import Derived.WalkKit
import Derived.KernelRfl
import Derived.RowKit3
import Derived.Deep.LoopGhost
import Derived.Deep.QuietTactic
import Derived.BigQuiet
import Derived.WideLaws
import Derived.Deep.DeepCutAuto
import Derived.Deep.CutBlock
import Derived.Deep.RegionHeld3
import Derived.Laws.Rows
import Derived.Lib.AppendStr
import Derived.ArgAppend
import Derived.Laws.IdiomCopy
import Derived.OrdersHeld
import Derived.Laws.BitsLemmas
import Derived.RowKit
import Derived.Test.YtpcadcmfdbhmhaaWWords
import Derived.Test.YtpcadcmfdbhmhaaWLast
import Derived.Test.YtpcadcmfdbhmhaaWTab
import Derived.Test.YtpcadcmfdbhmhaaWFour
import Derived.Test.YtpcadcmfdbhmhaaWQPut
import Derived.Test.YtpcadcmfdbhmhaaWApart
import Derived.Test.YtpcadcmfdbhmhaaWArr
import Derived.Test.YtpcadcmfdbhmhaaWZeros
import Derived.Test.YtpcadcmfdbhmhaaWFoot
import Derived.Test.YtpcadcmfdbhmhaaWKept
import Derived.Test.YtpcadcmfdbhmhaaWShare
import Derived.Test.YtpcadcmfdbhmhaaWN
import Derived.Test.YtpcadcmfdbhmhaaWFootNe
import Derived.Test.YtpcadcmfdbhmhaaWAt
import Derived.Test.YtpcadcmfdbhmhaaWEqStruct
import Derived.Test.YtpcadcmfdbhmhaaWRepsOne
import Derived.Test.YtpcadcmfdbhmhaaWInv
import Derived.Test.YtpcadcmfdbhmhaaWInvWords
import Derived.Test.YtpcadcmfdbhmhaaWGuard
import Derived.Test.YtpcadcmfdbhmhaaWNEv
import Derived.Test.YtpcadcmfdbhmhaaWMore
namespace Go.Proofs.Ytpcadcmfdbhmhaa.P
open Go.RowKit Go.Proofs.YtpcadcmfdbhmhaaW.PrintWords Go.Proofs.YtpcadcmfdbhmhaaW.PrintLast Go.Proofs.YtpcadcmfdbhmhaaW.PrintMore
attribute [local go_sem] max2_int min2_int max_two min_two max_three min_three max_four min_four   -- for this text's walks alone
set_option linter.unusedVariables false
set_option linter.unusedSimpArgs false



def errW : Option Int → Value
  | none => .nilIface
  | some c => .iface 0 (.int .i64 c)
theorem errW_none : errW none = .nilIface := rfl
theorem errW_some (c : Int) : errW (some c) = .iface 0 (.int .i64 c) := rfl

theorem info39 : (Try.prog.info? 39).map (fun i => (i.zero, i.size, i.bytes)) = some (some (.agg #[(.string ⟨#[]⟩), (.int .i64 0)]), 2, 24) := by kernel_rfl
theorem info52 : (Try.prog.info? 52).map (fun i => (i.zero, i.size, i.bytes)) = some (some (.agg #[(.bool false), (.string ⟨#[]⟩), (.bool false), (.string ⟨#[]⟩), (.int .i64 0)]), 5, 56) := by kernel_rfl
-- the values' own types
/-! #### struct type 39 -/
structure S39 where
  f0 : ByteArray
  f1 : Int
def z39 : S39 := ⟨(⟨#[]⟩ : ByteArray), (0 : Int)⟩
def k39 : Kd S39 := Kd.iso (Kd.pair Kd.string (Kd.int .i64)) (fun x : S39 => (x.f0, x.f1))
theorem k39_open {w : World} {x : S39} {cs : List Value} (h : k39.K w x cs) : cs = [.string x.f0, .int .i64 x.f1] := by
  obtain ⟨_, _, rfl, rfl, rfl⟩ := h
  exact rfl
theorem k39_openM {w : World} {base : Nat} {ok : Nat → Prop} {x : S39} {cs : List Value} (h : k39.M w base ok x cs) : cs = [.string x.f0, .int .i64 x.f1] := by
  obtain ⟨_, _, rfl, rfl, rfl⟩ := h
  exact rfl
theorem k39_mk (w : World) (x : S39)  : k39.K w x [.string x.f0, .int .i64 x.f1] := ⟨[.string x.f0], [.int .i64 x.f1], rfl, rfl, rfl⟩
theorem k39_mkM (w : World) (base : Nat) (ok : Nat → Prop) (x : S39)  : k39.M w base ok x [.string x.f0, .int .i64 x.f1] := ⟨[.string x.f0], [.int .i64 x.f1], rfl, rfl, rfl⟩
theorem k39_mkF (W : World) (ok : Nat → Prop) (x : S39) : Kd.FK k39 W ok x [.string x.f0, .int .i64 x.f1] := fun W2 _ => k39_mk W2 x
def rd_T39 (xs : List S39) (i : Int) : S39 := xs.getD i.toNat z39
theorem at_T39 {w : World} {A : Option Addr} {n : Nat} {xs : List S39} (h : Kd.C k39 w A n xs) (i : Int) (h0 : 0 ≤ i) (h1 : i < n) : ∃ ad , A = some ad ∧ w.cell? (ad.add (i.toNat * 2)) = some (.string (rd_T39 xs i).f0) ∧ w.cell? ⟨(ad.add (i.toNat * 2)).block, (ad.add (i.toNat * 2)).off + 1, none⟩ = some (.int .i64 (rd_T39 xs i).f1) := by
  obtain ⟨ad, c, e, _, hK, hc0⟩ := Kd.C_get h z39 i h0 h1
  have hc : ∀ j u, c[j]? = some u → w.cell? (ad.add (i.toNat * 2 + j)) = some u := hc0
  obtain rfl := k39_open hK
  exact ⟨ad, e, hc 0 _ rfl, by rw [← add_field _ _ 1 (by omega)]; exact hc 1 _ rfl⟩

/-! #### struct type 50 -/
structure S50 where
  f0 : Bool
  f1 : ByteArray
  f2 : Int
def z50 : S50 := ⟨false, (⟨#[]⟩ : ByteArray), (0 : Int)⟩
def k50 : Kd S50 := Kd.iso (Kd.pair Kd.bool (Kd.pair Kd.string (Kd.int .i64))) (fun x : S50 => (x.f0, x.f1, x.f2))
theorem k50_open {w : World} {x : S50} {cs : List Value} (h : k50.K w x cs) : cs = [.bool x.f0, .string x.f1, .int .i64 x.f2] := by
  obtain ⟨_, _, rfl, rfl, ⟨_, _, rfl, rfl, rfl⟩⟩ := h
  exact rfl
theorem k50_openM {w : World} {base : Nat} {ok : Nat → Prop} {x : S50} {cs : List Value} (h : k50.M w base ok x cs) : cs = [.bool x.f0, .string x.f1, .int .i64 x.f2] := by
  obtain ⟨_, _, rfl, rfl, ⟨_, _, rfl, rfl, rfl⟩⟩ := h
  exact rfl
theorem k50_mk (w : World) (x : S50)  : k50.K w x [.bool x.f0, .string x.f1, .int .i64 x.f2] := ⟨[.bool x.f0], [.string x.f1, .int .i64 x.f2], rfl, rfl, ⟨[.string x.f1], [.int .i64 x.f2], rfl, rfl, rfl⟩⟩
theorem k50_mkM (w : World) (base : Nat) (ok : Nat → Prop) (x : S50)  : k50.M w base ok x [.bool x.f0, .string x.f1, .int .i64 x.f2] := ⟨[.bool x.f0], [.string x.f1, .int .i64 x.f2], rfl, rfl, ⟨[.string x.f1], [.int .i64 x.f2], rfl, rfl, rfl⟩⟩
theorem k50_mkF (W : World) (ok : Nat → Prop) (x : S50) : Kd.FK k50 W ok x [.bool x.f0, .string x.f1, .int .i64 x.f2] := fun W2 _ => k50_mk W2 x
def rd_T50 (xs : List S50) (i : Int) : S50 := xs.getD i.toNat z50
theorem at_T50 {w : World} {A : Option Addr} {n : Nat} {xs : List S50} (h : Kd.C k50 w A n xs) (i : Int) (h0 : 0 ≤ i) (h1 : i < n) : ∃ ad , A = some ad ∧ w.cell? (ad.add (i.toNat * 3)) = some (.bool (rd_T50 xs i).f0) ∧ w.cell? ⟨(ad.add (i.toNat * 3)).block, (ad.add (i.toNat * 3)).off + 1, none⟩ = some (.string (rd_T50 xs i).f1) ∧ w.cell? ⟨(ad.add (i.toNat * 3)).block, (ad.add (i.toNat * 3)).off + 2, none⟩ = some (.int .i64 (rd_T50 xs i).f2) := by
  obtain ⟨ad, c, e, _, hK, hc0⟩ := Kd.C_get h z50 i h0 h1
  have hc : ∀ j u, c[j]? = some u → w.cell? (ad.add (i.toNat * 3 + j)) = some u := hc0
  obtain rfl := k50_open hK
  exact ⟨ad, e, hc 0 _ rfl, by rw [← add_field _ _ 1 (by omega)]; exact hc 1 _ rfl, by rw [← add_field _ _ 2 (by omega)]; exact hc 2 _ rfl⟩

/-! #### struct type 52 -/
structure S52 where
  f0 : Bool
  f1 : ByteArray
  f2 : S50
def z52 : S52 := ⟨false, (⟨#[]⟩ : ByteArray), z50⟩
def k52 : Kd S52 := Kd.iso (Kd.pair Kd.bool (Kd.pair Kd.string k50)) (fun x : S52 => (x.f0, x.f1, x.f2))
theorem k52_open {w : World} {x : S52} {cs : List Value} (h : k52.K w x cs) : cs = [.bool x.f0, .string x.f1, .bool x.f2.f0, .string x.f2.f1, .int .i64 x.f2.f2] := by
  obtain ⟨_, _, rfl, rfl, ⟨_, _, rfl, rfl, s2⟩⟩ := h
  obtain rfl := k50_open s2
  exact rfl
theorem k52_openM {w : World} {base : Nat} {ok : Nat → Prop} {x : S52} {cs : List Value} (h : k52.M w base ok x cs) : cs = [.bool x.f0, .string x.f1, .bool x.f2.f0, .string x.f2.f1, .int .i64 x.f2.f2] := by
  obtain ⟨_, _, rfl, rfl, ⟨_, _, rfl, rfl, s2⟩⟩ := h
  obtain rfl := k50_openM s2
  exact rfl
theorem k52_mk (w : World) (x : S52)  : k52.K w x [.bool x.f0, .string x.f1, .bool x.f2.f0, .string x.f2.f1, .int .i64 x.f2.f2] := ⟨[.bool x.f0], [.string x.f1, .bool x.f2.f0, .string x.f2.f1, .int .i64 x.f2.f2], rfl, rfl, ⟨[.string x.f1], [.bool x.f2.f0, .string x.f2.f1, .int .i64 x.f2.f2], rfl, rfl, (k50_mk w x.f2 )⟩⟩
theorem k52_mkM (w : World) (base : Nat) (ok : Nat → Prop) (x : S52)  : k52.M w base ok x [.bool x.f0, .string x.f1, .bool x.f2.f0, .string x.f2.f1, .int .i64 x.f2.f2] := ⟨[.bool x.f0], [.string x.f1, .bool x.f2.f0, .string x.f2.f1, .int .i64 x.f2.f2], rfl, rfl, ⟨[.string x.f1], [.bool x.f2.f0, .string x.f2.f1, .int .i64 x.f2.f2], rfl, rfl, (k50_mkM w base ok x.f2 )⟩⟩
theorem k52_mkF (W : World) (ok : Nat → Prop) (x : S52) : Kd.FK k52 W ok x [.bool x.f0, .string x.f1, .bool x.f2.f0, .string x.f2.f1, .int .i64 x.f2.f2] := fun W2 _ => k52_mk W2 x
def rd_T52 (xs : List S52) (i : Int) : S52 := xs.getD i.toNat z52
theorem at_T52 {w : World} {A : Option Addr} {n : Nat} {xs : List S52} (h : Kd.C k52 w A n xs) (i : Int) (h0 : 0 ≤ i) (h1 : i < n) : ∃ ad , A = some ad ∧ w.cell? (ad.add (i.toNat * 5)) = some (.bool (rd_T52 xs i).f0) ∧ w.cell? ⟨(ad.add (i.toNat * 5)).block, (ad.add (i.toNat * 5)).off + 1, none⟩ = some (.string (rd_T52 xs i).f1) ∧ w.cell? ⟨(ad.add (i.toNat * 5)).block, (ad.add (i.toNat * 5)).off + 2, none⟩ = some (.bool (rd_T52 xs i).f2.f0) ∧ w.cell? ⟨(ad.add (i.toNat * 5)).block, (ad.add (i.toNat * 5)).off + 3, none⟩ = some (.string (rd_T52 xs i).f2.f1) ∧ w.cell? ⟨(ad.add (i.toNat * 5)).block, (ad.add (i.toNat * 5)).off + 4, none⟩ = some (.int .i64 (rd_T52 xs i).f2.f2) := by
  obtain ⟨ad, c, e, _, hK, hc0⟩ := Kd.C_get h z52 i h0 h1
  have hc : ∀ j u, c[j]? = some u → w.cell? (ad.add (i.toNat * 5 + j)) = some u := hc0
  obtain rfl := k52_open hK
  exact ⟨ad, e, hc 0 _ rfl, by rw [← add_field _ _ 1 (by omega)]; exact hc 1 _ rfl, by rw [← add_field _ _ 2 (by omega)]; exact hc 2 _ rfl, by rw [← add_field _ _ 3 (by omega)]; exact hc 3 _ rfl, by rw [← add_field _ _ 4 (by omega)]; exact hc 4 _ rfl⟩

def rd_L6 (xs : List (List S52)) (i : Int) : (List S52) := xs.getD i.toNat ([] : List S52)
theorem at_L6 {w : World} {A : Option Addr} {n : Nat} {xs : List (List S52)} (h : Kd.C (Kd.slice 52 k52) w A n xs) (i : Int) (h0 : 0 ≤ i) (h1 : i < n) : ∃ ad A0 c0, A = some ad ∧ w.cell? (ad.add i.toNat) = some (.slice A0 (rd_L6 xs i).length c0) ∧ (rd_L6 xs i).length ≤ c0 ∧ k52.C w A0 (rd_L6 xs i).length (rd_L6 xs i) := by
  obtain ⟨ad, c, e, _, hK, hc0⟩ := Kd.C_get h ([] : List S52) i h0 h1
  have hc : ∀ j u, c[j]? = some u → w.cell? (ad.add (i.toNat * 1 + j)) = some u := hc0
  obtain ⟨A0, c0, rfl, l0, g0⟩ := hK
  exact ⟨ad, A0, c0, e, by have hq := hc 0 _ rfl; rwa [Nat.mul_one, Nat.add_zero] at hq, l0, g0⟩

/-! #### struct type 43 -/
structure S43 where
  f0 : ByteArray
  f1 : (List S52)
def z43 : S43 := ⟨(⟨#[]⟩ : ByteArray), ([] : List S52)⟩
def k43 : Kd S43 := Kd.iso (Kd.pair Kd.string (Kd.slice 52 k52)) (fun x : S43 => (x.f0, x.f1))
theorem k43_open {w : World} {x : S43} {cs : List Value} (h : k43.K w x cs) : ∃ A1 c1, cs = [.string x.f0, .slice A1 x.f1.length c1] ∧ x.f1.length ≤ c1 ∧ k52.C w A1 x.f1.length x.f1 := by
  obtain ⟨_, _, rfl, rfl, ⟨A1, c1, rfl, l1, g1⟩⟩ := h
  exact ⟨A1, c1, rfl, l1, g1⟩
theorem k43_openM {w : World} {base : Nat} {ok : Nat → Prop} {x : S43} {cs : List Value} (h : k43.M w base ok x cs) : ∃ v1, cs = [.string x.f0, v1] ∧ k52.R 52 w base ok v1 x.f1 := by
  obtain ⟨_, _, rfl, rfl, ⟨v1, rfl, g1⟩⟩ := h
  exact ⟨v1, rfl, g1⟩
theorem k43_mk (w : World) (x : S43) {A1 : Option Addr} {c1 : Nat} (l1 : x.f1.length ≤ c1) (g1 : k52.C w A1 x.f1.length x.f1) : k43.K w x [.string x.f0, .slice A1 x.f1.length c1] := ⟨[.string x.f0], [.slice A1 x.f1.length c1], rfl, rfl, ⟨A1, c1, rfl, l1, g1⟩⟩
theorem k43_mkM (w : World) (base : Nat) (ok : Nat → Prop) (x : S43) {v1 : Value} (g1 : k52.R 52 w base ok v1 x.f1) : k43.M w base ok x [.string x.f0, v1] := ⟨[.string x.f0], [v1], rfl, rfl, ⟨v1, rfl, g1⟩⟩
theorem k43_openF {W : World} {ok : Nat → Prop} {x : S43} {cs : List Value} (h : Kd.FK k43 W ok x cs) : ∃ A1 c1, cs = [.string x.f0, .slice A1 x.f1.length c1] ∧ x.f1.length ≤ c1 ∧ Kd.F k52 W ok A1 x.f1.length x.f1 := by
  obtain ⟨A1, c1, rfl, l1, _⟩ := k43_open (Kd.FK_now h)
  exact ⟨A1, c1, rfl, l1, (fun W' hW => by obtain ⟨A1_, c1_, he, l1_, g1_⟩ := k43_open (h W' hW); injection (Option.some.inj (show some (Value.slice A1 x.f1.length c1) = some (Value.slice A1_ x.f1.length c1_) from congrArg (fun l => l[1]?) he)) with ha_ _ _; rw [ha_]; exact g1_)⟩
theorem k43_mkF (W : World) (ok : Nat → Prop) (x : S43) {A1 : Option Addr} {c1 : Nat} (l1 : x.f1.length ≤ c1) (g1 : Kd.F k52 W ok A1 x.f1.length x.f1) : Kd.FK k43 W ok x [.string x.f0, .slice A1 x.f1.length c1] := fun W2 hW => k43_mk W2 x l1 (g1 W2 hW)
def rd_T43 (xs : List S43) (i : Int) : S43 := xs.getD i.toNat z43
theorem at_T43 {w : World} {A : Option Addr} {n : Nat} {xs : List S43} (h : Kd.C k43 w A n xs) (i : Int) (h0 : 0 ≤ i) (h1 : i < n) : ∃ ad A1 c1, A = some ad ∧ w.cell? (ad.add (i.toNat * 2)) = some (.string (rd_T43 xs i).f0) ∧ w.cell? ⟨(ad.add (i.toNat * 2)).block, (ad.add (i.toNat * 2)).off + 1, none⟩ = some (.slice A1 (rd_T43 xs i).f1.length c1) ∧ (rd_T43 xs i).f1.length ≤ c1 ∧ k52.C w A1 (rd_T43 xs i).f1.length (rd_T43 xs i).f1 := by
  obtain ⟨ad, c, e, _, hK, hc0⟩ := Kd.C_get h z43 i h0 h1
  have hc : ∀ j u, c[j]? = some u → w.cell? (ad.add (i.toNat * 2 + j)) = some u := hc0
  obtain ⟨A1, c1, rfl, l1, g1⟩ := k43_open hK
  exact ⟨ad, A1, c1, e, hc 0 _ rfl, by rw [← add_field _ _ 1 (by omega)]; exact hc 1 _ rfl, l1, g1⟩

/-! #### struct type 54 -/
structure S54 where
  f0 : Int
  f1 : S43
  f2 : ByteArray
  f3 : S52
  f4 : S52
def z54 : S54 := ⟨(0 : Int), z43, (⟨#[]⟩ : ByteArray), z52, z52⟩
def k54 : Kd S54 := Kd.iso (Kd.pair (Kd.int .i64) (Kd.pair k43 (Kd.pair Kd.string (Kd.pair k52 k52)))) (fun x : S54 => (x.f0, x.f1, x.f2, x.f3, x.f4))
theorem k54_open {w : World} {x : S54} {cs : List Value} (h : k54.K w x cs) : ∃ A2 c2, cs = [.int .i64 x.f0, .string x.f1.f0, .slice A2 x.f1.f1.length c2, .string x.f2, .bool x.f3.f0, .string x.f3.f1, .bool x.f3.f2.f0, .string x.f3.f2.f1, .int .i64 x.f3.f2.f2, .bool x.f4.f0, .string x.f4.f1, .bool x.f4.f2.f0, .string x.f4.f2.f1, .int .i64 x.f4.f2.f2] ∧ x.f1.f1.length ≤ c2 ∧ k52.C w A2 x.f1.f1.length x.f1.f1 := by
  obtain ⟨_, _, rfl, rfl, ⟨_, _, rfl, s1, ⟨_, _, rfl, rfl, ⟨_, _, rfl, s4, s9⟩⟩⟩⟩ := h
  obtain ⟨A2, c2, rfl, l2, g2⟩ := k43_open s1
  obtain rfl := k52_open s4
  obtain rfl := k52_open s9
  exact ⟨A2, c2, rfl, l2, g2⟩
theorem k54_openM {w : World} {base : Nat} {ok : Nat → Prop} {x : S54} {cs : List Value} (h : k54.M w base ok x cs) : ∃ v2, cs = [.int .i64 x.f0, .string x.f1.f0, v2, .string x.f2, .bool x.f3.f0, .string x.f3.f1, .bool x.f3.f2.f0, .string x.f3.f2.f1, .int .i64 x.f3.f2.f2, .bool x.f4.f0, .string x.f4.f1, .bool x.f4.f2.f0, .string x.f4.f2.f1, .int .i64 x.f4.f2.f2] ∧ k52.R 52 w base ok v2 x.f1.f1 := by
  obtain ⟨_, _, rfl, rfl, ⟨_, _, rfl, s1, ⟨_, _, rfl, rfl, ⟨_, _, rfl, s4, s9⟩⟩⟩⟩ := h
  obtain ⟨v2, rfl, g2⟩ := k43_openM s1
  obtain rfl := k52_openM s4
  obtain rfl := k52_openM s9
  exact ⟨v2, rfl, g2⟩
theorem k54_mk (w : World) (x : S54) {A2 : Option Addr} {c2 : Nat} (l2 : x.f1.f1.length ≤ c2) (g2 : k52.C w A2 x.f1.f1.length x.f1.f1) : k54.K w x [.int .i64 x.f0, .string x.f1.f0, .slice A2 x.f1.f1.length c2, .string x.f2, .bool x.f3.f0, .string x.f3.f1, .bool x.f3.f2.f0, .string x.f3.f2.f1, .int .i64 x.f3.f2.f2, .bool x.f4.f0, .string x.f4.f1, .bool x.f4.f2.f0, .string x.f4.f2.f1, .int .i64 x.f4.f2.f2] := ⟨[.int .i64 x.f0], [.string x.f1.f0, .slice A2 x.f1.f1.length c2, .string x.f2, .bool x.f3.f0, .string x.f3.f1, .bool x.f3.f2.f0, .string x.f3.f2.f1, .int .i64 x.f3.f2.f2, .bool x.f4.f0, .string x.f4.f1, .bool x.f4.f2.f0, .string x.f4.f2.f1, .int .i64 x.f4.f2.f2], rfl, rfl, ⟨[.string x.f1.f0, .slice A2 x.f1.f1.length c2], [.string x.f2, .bool x.f3.f0, .string x.f3.f1, .bool x.f3.f2.f0, .string x.f3.f2.f1, .int .i64 x.f3.f2.f2, .bool x.f4.f0, .string x.f4.f1, .bool x.f4.f2.f0, .string x.f4.f2.f1, .int .i64 x.f4.f2.f2], rfl, (k43_mk w x.f1 l2 g2), ⟨[.string x.f2], [.bool x.f3.f0, .string x.f3.f1, .bool x.f3.f2.f0, .string x.f3.f2.f1, .int .i64 x.f3.f2.f2, .bool x.f4.f0, .string x.f4.f1, .bool x.f4.f2.f0, .string x.f4.f2.f1, .int .i64 x.f4.f2.f2], rfl, rfl, ⟨[.bool x.f3.f0, .string x.f3.f1, .bool x.f3.f2.f0, .string x.f3.f2.f1, .int .i64 x.f3.f2.f2], [.bool x.f4.f0, .string x.f4.f1, .bool x.f4.f2.f0, .string x.f4.f2.f1, .int .i64 x.f4.f2.f2], rfl, (k52_mk w x.f3 ), (k52_mk w x.f4 )⟩⟩⟩⟩
theorem k54_mkM (w : World) (base : Nat) (ok : Nat → Prop) (x : S54) {v2 : Value} (g2 : k52.R 52 w base ok v2 x.f1.f1) : k54.M w base ok x [.int .i64 x.f0, .string x.f1.f0, v2, .string x.f2, .bool x.f3.f0, .string x.f3.f1, .bool x.f3.f2.f0, .string x.f3.f2.f1, .int .i64 x.f3.f2.f2, .bool x.f4.f0, .string x.f4.f1, .bool x.f4.f2.f0, .string x.f4.f2.f1, .int .i64 x.f4.f2.f2] := ⟨[.int .i64 x.f0], [.string x.f1.f0, v2, .string x.f2, .bool x.f3.f0, .string x.f3.f1, .bool x.f3.f2.f0, .string x.f3.f2.f1, .int .i64 x.f3.f2.f2, .bool x.f4.f0, .string x.f4.f1, .bool x.f4.f2.f0, .string x.f4.f2.f1, .int .i64 x.f4.f2.f2], rfl, rfl, ⟨[.string x.f1.f0, v2], [.string x.f2, .bool x.f3.f0, .string x.f3.f1, .bool x.f3.f2.f0, .string x.f3.f2.f1, .int .i64 x.f3.f2.f2, .bool x.f4.f0, .string x.f4.f1, .bool x.f4.f2.f0, .string x.f4.f2.f1, .int .i64 x.f4.f2.f2], rfl, (k43_mkM w base ok x.f1 g2), ⟨[.string x.f2], [.bool x.f3.f0, .string x.f3.f1, .bool x.f3.f2.f0, .string x.f3.f2.f1, .int .i64 x.f3.f2.f2, .bool x.f4.f0, .string x.f4.f1, .bool x.f4.f2.f0, .string x.f4.f2.f1, .int .i64 x.f4.f2.f2], rfl, rfl, ⟨[.bool x.f3.f0, .string x.f3.f1, .bool x.f3.f2.f0, .string x.f3.f2.f1, .int .i64 x.f3.f2.f2], [.bool x.f4.f0, .string x.f4.f1, .bool x.f4.f2.f0, .string x.f4.f2.f1, .int .i64 x.f4.f2.f2], rfl, (k52_mkM w base ok x.f3 ), (k52_mkM w base ok x.f4 )⟩⟩⟩⟩
theorem k54_openF {W : World} {ok : Nat → Prop} {x : S54} {cs : List Value} (h : Kd.FK k54 W ok x cs) : ∃ A2 c2, cs = [.int .i64 x.f0, .string x.f1.f0, .slice A2 x.f1.f1.length c2, .string x.f2, .bool x.f3.f0, .string x.f3.f1, .bool x.f3.f2.f0, .string x.f3.f2.f1, .int .i64 x.f3.f2.f2, .bool x.f4.f0, .string x.f4.f1, .bool x.f4.f2.f0, .string x.f4.f2.f1, .int .i64 x.f4.f2.f2] ∧ x.f1.f1.length ≤ c2 ∧ Kd.F k52 W ok A2 x.f1.f1.length x.f1.f1 := by
  obtain ⟨A2, c2, rfl, l2, _⟩ := k54_open (Kd.FK_now h)
  exact ⟨A2, c2, rfl, l2, (fun W' hW => by obtain ⟨A2_, c2_, he, l2_, g2_⟩ := k54_open (h W' hW); injection (Option.some.inj (show some (Value.slice A2 x.f1.f1.length c2) = some (Value.slice A2_ x.f1.f1.length c2_) from congrArg (fun l => l[2]?) he)) with ha_ _ _; rw [ha_]; exact g2_)⟩
theorem k54_mkF (W : World) (ok : Nat → Prop) (x : S54) {A2 : Option Addr} {c2 : Nat} (l2 : x.f1.f1.length ≤ c2) (g2 : Kd.F k52 W ok A2 x.f1.f1.length x.f1.f1) : Kd.FK k54 W ok x [.int .i64 x.f0, .string x.f1.f0, .slice A2 x.f1.f1.length c2, .string x.f2, .bool x.f3.f0, .string x.f3.f1, .bool x.f3.f2.f0, .string x.f3.f2.f1, .int .i64 x.f3.f2.f2, .bool x.f4.f0, .string x.f4.f1, .bool x.f4.f2.f0, .string x.f4.f2.f1, .int .i64 x.f4.f2.f2] := fun W2 hW => k54_mk W2 x l2 (g2 W2 hW)
def rd_T54 (xs : List S54) (i : Int) : S54 := xs.getD i.toNat z54
theorem at_T54 {w : World} {A : Option Addr} {n : Nat} {xs : List S54} (h : Kd.C k54 w A n xs) (i : Int) (h0 : 0 ≤ i) (h1 : i < n) : ∃ ad A2 c2, A = some ad ∧ w.cell? (ad.add (i.toNat * 14)) = some (.int .i64 (rd_T54 xs i).f0) ∧ w.cell? ⟨(ad.add (i.toNat * 14)).block, (ad.add (i.toNat * 14)).off + 1, none⟩ = some (.string (rd_T54 xs i).f1.f0) ∧ w.cell? ⟨(ad.add (i.toNat * 14)).block, (ad.add (i.toNat * 14)).off + 2, none⟩ = some (.slice A2 (rd_T54 xs i).f1.f1.length c2) ∧ w.cell? ⟨(ad.add (i.toNat * 14)).block, (ad.add (i.toNat * 14)).off + 3, none⟩ = some (.string (rd_T54 xs i).f2) ∧ w.cell? ⟨(ad.add (i.toNat * 14)).block, (ad.add (i.toNat * 14)).off + 4, none⟩ = some (.bool (rd_T54 xs i).f3.f0) ∧ w.cell? ⟨(ad.add (i.toNat * 14)).block, (ad.add (i.toNat * 14)).off + 5, none⟩ = some (.string (rd_T54 xs i).f3.f1) ∧ w.cell? ⟨(ad.add (i.toNat * 14)).block, (ad.add (i.toNat * 14)).off + 6, none⟩ = some (.bool (rd_T54 xs i).f3.f2.f0) ∧ w.cell? ⟨(ad.add (i.toNat * 14)).block, (ad.add (i.toNat * 14)).off + 7, none⟩ = some (.string (rd_T54 xs i).f3.f2.f1) ∧ w.cell? ⟨(ad.add (i.toNat * 14)).block, (ad.add (i.toNat * 14)).off + 8, none⟩ = some (.int .i64 (rd_T54 xs i).f3.f2.f2) ∧ w.cell? ⟨(ad.add (i.toNat * 14)).block, (ad.add (i.toNat * 14)).off + 9, none⟩ = some (.bool (rd_T54 xs i).f4.f0) ∧ w.cell? ⟨(ad.add (i.toNat * 14)).block, (ad.add (i.toNat * 14)).off + 10, none⟩ = some (.string (rd_T54 xs i).f4.f1) ∧ w.cell? ⟨(ad.add (i.toNat * 14)).block, (ad.add (i.toNat * 14)).off + 11, none⟩ = some (.bool (rd_T54 xs i).f4.f2.f0) ∧ w.cell? ⟨(ad.add (i.toNat * 14)).block, (ad.add (i.toNat * 14)).off + 12, none⟩ = some (.string (rd_T54 xs i).f4.f2.f1) ∧ w.cell? ⟨(ad.add (i.toNat * 14)).block, (ad.add (i.toNat * 14)).off + 13, none⟩ = some (.int .i64 (rd_T54 xs i).f4.f2.f2) ∧ (rd_T54 xs i).f1.f1.length ≤ c2 ∧ k52.C w A2 (rd_T54 xs i).f1.f1.length (rd_T54 xs i).f1.f1 := by
  obtain ⟨ad, c, e, _, hK, hc0⟩ := Kd.C_get h z54 i h0 h1
  have hc : ∀ j u, c[j]? = some u → w.cell? (ad.add (i.toNat * 14 + j)) = some u := hc0
  obtain ⟨A2, c2, rfl, l2, g2⟩ := k54_open hK
  exact ⟨ad, A2, c2, e, hc 0 _ rfl, by rw [← add_field _ _ 1 (by omega)]; exact hc 1 _ rfl, by rw [← add_field _ _ 2 (by omega)]; exact hc 2 _ rfl, by rw [← add_field _ _ 3 (by omega)]; exact hc 3 _ rfl, by rw [← add_field _ _ 4 (by omega)]; exact hc 4 _ rfl, by rw [← add_field _ _ 5 (by omega)]; exact hc 5 _ rfl, by rw [← add_field _ _ 6 (by omega)]; exact hc 6 _ rfl, by rw [← add_field _ _ 7 (by omega)]; exact hc 7 _ rfl, by rw [← add_field _ _ 8 (by omega)]; exact hc 8 _ rfl, by rw [← add_field _ _ 9 (by omega)]; exact hc 9 _ rfl, by rw [← add_field _ _ 10 (by omega)]; exact hc 10 _ rfl, by rw [← add_field _ _ 11 (by omega)]; exact hc 11 _ rfl, by rw [← add_field _ _ 12 (by omega)]; exact hc 12 _ rfl, by rw [← add_field _ _ 13 (by omega)]; exact hc 13 _ rfl, l2, g2⟩

def rd_L9 (xs : List (List S54)) (i : Int) : (List S54) := xs.getD i.toNat ([] : List S54)
theorem at_L9 {w : World} {A : Option Addr} {n : Nat} {xs : List (List S54)} (h : Kd.C (Kd.slice 54 k54) w A n xs) (i : Int) (h0 : 0 ≤ i) (h1 : i < n) : ∃ ad A0 c0, A = some ad ∧ w.cell? (ad.add i.toNat) = some (.slice A0 (rd_L9 xs i).length c0) ∧ (rd_L9 xs i).length ≤ c0 ∧ k54.C w A0 (rd_L9 xs i).length (rd_L9 xs i) := by
  obtain ⟨ad, c, e, _, hK, hc0⟩ := Kd.C_get h ([] : List S54) i h0 h1
  have hc : ∀ j u, c[j]? = some u → w.cell? (ad.add (i.toNat * 1 + j)) = some u := hc0
  obtain ⟨A0, c0, rfl, l0, g0⟩ := hK
  exact ⟨ad, A0, c0, e, by have hq := hc 0 _ rfl; rwa [Nat.mul_one, Nat.add_zero] at hq, l0, g0⟩

/-! #### struct type 46 -/
structure S46 where
  f0 : S43
  f1 : (List S54)
def z46 : S46 := ⟨z43, ([] : List S54)⟩
def k46 : Kd S46 := Kd.iso (Kd.pair k43 (Kd.slice 54 k54)) (fun x : S46 => (x.f0, x.f1))
theorem k46_open {w : World} {x : S46} {cs : List Value} (h : k46.K w x cs) : ∃ A1 c1 A2 c2, cs = [.string x.f0.f0, .slice A1 x.f0.f1.length c1, .slice A2 x.f1.length c2] ∧ x.f0.f1.length ≤ c1 ∧ k52.C w A1 x.f0.f1.length x.f0.f1 ∧ x.f1.length ≤ c2 ∧ k54.C w A2 x.f1.length x.f1 := by
  obtain ⟨_, _, rfl, s0, ⟨A2, c2, rfl, l2, g2⟩⟩ := h
  obtain ⟨A1, c1, rfl, l1, g1⟩ := k43_open s0
  exact ⟨A1, c1, A2, c2, rfl, l1, g1, l2, g2⟩
theorem k46_openM {w : World} {base : Nat} {ok : Nat → Prop} {x : S46} {cs : List Value} (h : k46.M w base ok x cs) : ∃ v1 v2, cs = [.string x.f0.f0, v1, v2] ∧ k52.R 52 w base ok v1 x.f0.f1 ∧ k54.R 54 w base ok v2 x.f1 := by
  obtain ⟨_, _, rfl, s0, ⟨v2, rfl, g2⟩⟩ := h
  obtain ⟨v1, rfl, g1⟩ := k43_openM s0
  exact ⟨v1, v2, rfl, g1, g2⟩
theorem k46_mk (w : World) (x : S46) {A1 : Option Addr} {c1 : Nat} (l1 : x.f0.f1.length ≤ c1) (g1 : k52.C w A1 x.f0.f1.length x.f0.f1) {A2 : Option Addr} {c2 : Nat} (l2 : x.f1.length ≤ c2) (g2 : k54.C w A2 x.f1.length x.f1) : k46.K w x [.string x.f0.f0, .slice A1 x.f0.f1.length c1, .slice A2 x.f1.length c2] := ⟨[.string x.f0.f0, .slice A1 x.f0.f1.length c1], [.slice A2 x.f1.length c2], rfl, (k43_mk w x.f0 l1 g1), ⟨A2, c2, rfl, l2, g2⟩⟩
theorem k46_mkM (w : World) (base : Nat) (ok : Nat → Prop) (x : S46) {v1 : Value} (g1 : k52.R 52 w base ok v1 x.f0.f1) {v2 : Value} (g2 : k54.R 54 w base ok v2 x.f1) : k46.M w base ok x [.string x.f0.f0, v1, v2] := ⟨[.string x.f0.f0, v1], [v2], rfl, (k43_mkM w base ok x.f0 g1), ⟨v2, rfl, g2⟩⟩
theorem k46_openF {W : World} {ok : Nat → Prop} {x : S46} {cs : List Value} (h : Kd.FK k46 W ok x cs) : ∃ A1 c1 A2 c2, cs = [.string x.f0.f0, .slice A1 x.f0.f1.length c1, .slice A2 x.f1.length c2] ∧ x.f0.f1.length ≤ c1 ∧ Kd.F k52 W ok A1 x.f0.f1.length x.f0.f1 ∧ x.f1.length ≤ c2 ∧ Kd.F k54 W ok A2 x.f1.length x.f1 := by
  obtain ⟨A1, c1, A2, c2, rfl, l1, _, l2, _⟩ := k46_open (Kd.FK_now h)
  exact ⟨A1, c1, A2, c2, rfl, l1, (fun W' hW => by obtain ⟨A1_, c1_, A2_, c2_, he, l1_, g1_, l2_, g2_⟩ := k46_open (h W' hW); injection (Option.some.inj (show some (Value.slice A1 x.f0.f1.length c1) = some (Value.slice A1_ x.f0.f1.length c1_) from congrArg (fun l => l[1]?) he)) with ha_ _ _; rw [ha_]; exact g1_), l2, (fun W' hW => by obtain ⟨A1_, c1_, A2_, c2_, he, l1_, g1_, l2_, g2_⟩ := k46_open (h W' hW); injection (Option.some.inj (show some (Value.slice A2 x.f1.length c2) = some (Value.slice A2_ x.f1.length c2_) from congrArg (fun l => l[2]?) he)) with ha_ _ _; rw [ha_]; exact g2_)⟩
theorem k46_mkF (W : World) (ok : Nat → Prop) (x : S46) {A1 : Option Addr} {c1 : Nat} (l1 : x.f0.f1.length ≤ c1) (g1 : Kd.F k52 W ok A1 x.f0.f1.length x.f0.f1) {A2 : Option Addr} {c2 : Nat} (l2 : x.f1.length ≤ c2) (g2 : Kd.F k54 W ok A2 x.f1.length x.f1) : Kd.FK k46 W ok x [.string x.f0.f0, .slice A1 x.f0.f1.length c1, .slice A2 x.f1.length c2] := fun W2 hW => k46_mk W2 x l1 (g1 W2 hW) l2 (g2 W2 hW)
def rd_T46 (xs : List S46) (i : Int) : S46 := xs.getD i.toNat z46
theorem at_T46 {w : World} {A : Option Addr} {n : Nat} {xs : List S46} (h : Kd.C k46 w A n xs) (i : Int) (h0 : 0 ≤ i) (h1 : i < n) : ∃ ad A1 c1 A2 c2, A = some ad ∧ w.cell? (ad.add (i.toNat * 3)) = some (.string (rd_T46 xs i).f0.f0) ∧ w.cell? ⟨(ad.add (i.toNat * 3)).block, (ad.add (i.toNat * 3)).off + 1, none⟩ = some (.slice A1 (rd_T46 xs i).f0.f1.length c1) ∧ w.cell? ⟨(ad.add (i.toNat * 3)).block, (ad.add (i.toNat * 3)).off + 2, none⟩ = some (.slice A2 (rd_T46 xs i).f1.length c2) ∧ (rd_T46 xs i).f0.f1.length ≤ c1 ∧ k52.C w A1 (rd_T46 xs i).f0.f1.length (rd_T46 xs i).f0.f1 ∧ (rd_T46 xs i).f1.length ≤ c2 ∧ k54.C w A2 (rd_T46 xs i).f1.length (rd_T46 xs i).f1 := by
  obtain ⟨ad, c, e, _, hK, hc0⟩ := Kd.C_get h z46 i h0 h1
  have hc : ∀ j u, c[j]? = some u → w.cell? (ad.add (i.toNat * 3 + j)) = some u := hc0
  obtain ⟨A1, c1, A2, c2, rfl, l1, g1, l2, g2⟩ := k46_open hK
  exact ⟨ad, A1, c1, A2, c2, e, hc 0 _ rfl, by rw [← add_field _ _ 1 (by omega)]; exact hc 1 _ rfl, by rw [← add_field _ _ 2 (by omega)]; exact hc 2 _ rfl, l1, g1, l2, g2⟩

end Go.Proofs.Ytpcadcmfdbhmhaa.P
