/- ArityTells, ArityAgrees: for every program that fits, the law returns true and all that was there lies as it lay. -/
import Derived.Test.YtpcadcmfdbhmhaaAgree
namespace Go.Proofs.Ytpcadcmfdbhmhaa.P
open Go.RowKit Go.Proofs.YtpcadcmfdbhmhaaW.PrintWords Go.Proofs.YtpcadcmfdbhmhaaW.PrintLast Go.Proofs.YtpcadcmfdbhmhaaW.PrintMore

theorem tells_walk (A : Option Addr) (c : Nat) (ds : List S39) (B : Option Addr) (c' : Nat) (rs : List S46) (D : Option Addr) (c2 : Nat) (l : List S39) (p : ByteArray) (w : World) (hA : Kd.C k39 w A ds.length ds) (hc : ds.length ≤ c) (hB : Kd.C k46 w B rs.length rs) (hc' : rs.length ≤ c') (hD : Kd.C k39 w D l.length l) (hc2 : l.length ≤ c2) (hl : l.length ≤ 1000000000000000) (h : Fits ds rs) :
    Calls Try.prog 3 #[.agg #[.slice A ds.length c, .slice B rs.length c'], .slice D l.length c2, .string p] w fun e w' => e = .returned (.bool true) ∧ Below w.heap.size w w' := by
  obtain ⟨k, hk⟩ := (tells_ev l p h hl).rounds
  exact lambrequinlaw08_ArityTells.calls k A c ds B c' rs D c2 l p true w hA hc hB hc' hD hc2 hk
theorem agrees_walk (A : Option Addr) (c : Nat) (ds : List S39) (B : Option Addr) (c' : Nat) (rs : List S46) (w : World) (hA : Kd.C k39 w A ds.length ds) (hc : ds.length ≤ c) (hB : Kd.C k46 w B rs.length rs) (hc' : rs.length ≤ c') (h : Fits ds rs) :
    Calls Try.prog 4 #[.agg #[.slice A ds.length c, .slice B rs.length c']] w fun e w' => e = .returned (.bool true) ∧ Below w.heap.size w w' := by
  obtain ⟨k, hk⟩ := (agrees_ev h).rounds
  exact lambrequinlaw08_ArityAgrees.calls k A c ds B c' rs true w hA hc hB hc' hk
end Go.Proofs.Ytpcadcmfdbhmhaa.P
