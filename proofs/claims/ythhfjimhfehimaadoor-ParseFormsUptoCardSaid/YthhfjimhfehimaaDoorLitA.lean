/- (*parser).literal, whatever comes. -/
import Derived.Test.YthhfjimhfehimaaDoorLitK
import Derived.Test.YthhfjimhfehimaaDoorLitQ
import Derived.Test.YthhfjimhfehimaaDoorLitO
namespace Go.Proofs.YthhfjimhfehimaaDoor.V
set_option linter.unusedVariables false
set_option linter.unusedSimpArgs false
open Go.RowKit

theorem literal_calls {P : Nat} {L : List TP} {N : Nat} {A : Option Addr} {c : Nat} {r : List TP} (w : World) (h : PO P L N A c r w) (hmax : ∀ p ∈ L, p.1.s.length ≤ 65536) :
    Calls Tryd.prog 26 #[.pointer (some ⟨P, 0, none⟩)] w fun e w' => w.grownBy w' (some P) ∧ ∃ x v, e = .returned (.agg (litC x v).toArray) ∧ TermsAt w.heap.size w' x.a.a v ∧ PGot P L N A c 65700 (litP N r) (fun y => y = x) w' := by
  obtain ⟨nx, hnx, rfl, hS⟩ := h
  obtain ⟨⟨⟨k, s, n, q⟩, a⟩, hp⟩ : ∃ p, pk N (L.drop nx) 0 = p := ⟨_, rfl⟩
  obtain ⟨K, hK⟩ : ∃ K : Int, (k : Int) = K := ⟨_, rfl⟩
  cases h1 : (K == 1) with
  | false => exact lit_k1 w hnx hS hmax K k s n q a hp hK h1
  | true =>
    cases hq : q with
    | true => exact lit_qt w hnx hS hmax K k s n q a hp hK h1 hq
    | false =>
      cases hs : ((bs s).toList == [110, 111, 116]) with
      | true => exact lit_neg w hnx hS hmax K k s n q a hp hK h1 hq hs
      | false =>
        cases ho : isO N (L.drop nx) 1 with
        | true => exact lit_op w hnx hS hmax K k s n q a hp hK h1 hq hs ho
        | false => exact lit_pos w hnx hS hmax K k s n q a hp hK h1 hq hs ho
end Go.Proofs.YthhfjimhfehimaaDoor.V
