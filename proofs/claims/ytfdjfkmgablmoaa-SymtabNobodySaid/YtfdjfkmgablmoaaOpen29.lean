/- A value of package api, read as data, is so many cells; so is a list of them. No condition. -/
import Derived.Test.YtfdjfkmgablmoaaOpens
import Derived.Test.YtfdjfkmgablmoaaTab
namespace Go.Proofs.Ytfdjfkmgablmoaa.Tab
open Go.RowKit Go.Proofs.Ytfdjfkmgablmoaa.Opens Go.Proofs.YtfdjfkmgablmoaaW.PrintWords Go.Proofs.Ytfdjfkmgablmoaa.PSymtabPlays

theorem opens29 {H : Type} (enc : TypeId × Value → H) : Opens enc Try.prog 29 k29 (fun x _ => Ok x) :=
  Opens.imp (opens_struct (fun x : S29 => (x.f0, x.f1, x.f2)) (fun a => ⟨a.1, a.2.1, a.2.2⟩) (fun a => rfl) Try.underlying29
    (opensF_cons rfl (opens_bool Try.underlying4) (by kernel_rfl) rfl (opensF_cons rfl (opens_string Try.underlying9) (by kernel_rfl) rfl (opensF_one rfl (opens_int Try.underlying2) (by kernel_rfl)))) (by kernel_rfl))
    (fun x y h => by
      obtain ⟨ys, _, _, _, _, _, _, _, _, h2, _, _, h3⟩ := h
      exact ⟨h2.2, h3.2⟩)
theorem all_ok {H : Type} {l : List S29} {y : DataW H} (h : SliceRel (fun x _ => Ok x) l y) : ∀ x ∈ l, Ok x := by
  intro x hx
  obtain ⟨i, hi, rfl⟩ := List.getElem_of_mem hx
  rcases h with ⟨_, rfl⟩ | ⟨es, sp, _, hl, h⟩
  · cases hx
  · exact h i _ es[i] (List.getElem?_eq_getElem hi) (List.getElem?_eq_getElem (by omega))
end Go.Proofs.Ytfdjfkmgablmoaa.Tab
