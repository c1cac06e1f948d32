/- A program, read as data, is so many cells; its uses are no more than its bulk. -/
import Derived.Test.YtpcadcmfdbhmhaaRows
import Derived.Test.YtpcadcmfdbhmhaaOpens
import Derived.Test.YtpcadcmfdbhmhaaAgree
namespace Go.Proofs.Ytpcadcmfdbhmhaa.P
open Go.RowKit Go.Proofs.Ytpcadcmfdbhmhaa.Opens Go.Proofs.YtpcadcmfdbhmhaaW.PrintWords Go.Proofs.YtpcadcmfdbhmhaaW.PrintLast Go.Proofs.YtpcadcmfdbhmhaaW.PrintMore
variable {H : Type}

theorem one_bulk (d : DataW H) : 1 ≤ Rows.uptoBulk d := by
  cases d with
  | lit l => cases l <;> simp [Rows.uptoBulk]
  | nil => simp [Rows.uptoBulk]
  | ptr d => simp [Rows.uptoBulk]
  | slice elems spare => simp [Rows.uptoBulk]
  | agg parts => simp [Rows.uptoBulk]
  | iface t d => simp [Rows.uptoBulk]
  | map entries => simp [Rows.uptoBulk]
  | held h => simp [Rows.uptoBulk]

/-- What each element weighs, the whole list does. -/
theorem list_bulk {α : Type} (f : α → Nat) {ψ : α → DataW H → Prop} (hψ : ∀ a y, ψ a y → f a ≤ Rows.uptoBulk y) : ∀ (xs : List α) (es : List (DataW H)), xs.length = es.length → (∀ (i : Nat) (a : α) (e : DataW H), xs[i]? = some a → es[i]? = some e → ψ a e) → (xs.map f).sum ≤ Rows.uptoBulkAll es
  | [], [], _, _ => by simp
  | x :: xs, e :: es, hl, h => by
    have h0 := hψ x e (h 0 x e rfl rfl)
    have := list_bulk f hψ xs es (by simpa using hl) (fun i a e' h1 h2 => h (i + 1) a e' (by simpa using h1) (by simpa using h2))
    simp only [List.map_cons, List.sum_cons, Rows.uptoBulkAll]
    omega
theorem slice_bulk {α : Type} (f : α → Nat) {ψ : α → DataW H → Prop} (hψ : ∀ a y, ψ a y → f a ≤ Rows.uptoBulk y) {xs : List α} {y : DataW H} (h : SliceRel ψ xs y) : (xs.map f).sum ≤ Rows.uptoBulk y := by
  rcases h with ⟨_, rfl⟩ | ⟨es, sp, rfl, hl, h⟩
  · simp
  · have := list_bulk f hψ xs es hl h
    simp only [Rows.uptoBulk]
    omega
theorem sum_ones {α : Type} (xs : List α) : (xs.map fun _ => 1).sum = xs.length := by
  induction xs with
  | nil => rfl
  | cons x xs ih => simp only [List.map_cons, List.sum_cons, List.length_cons, ih]; omega

theorem opens39 (enc : TypeId × Value → H) : Opens enc Try.prog 39 k39 (fun _ _ => True) :=
  Opens.imp (opens_struct (fun x : S39 => (x.f0, x.f1)) (fun a => ⟨a.1, a.2⟩) (fun a => rfl) Try.underlying39
    (opensF_cons rfl (opens_string Try.underlying9) (by kernel_rfl) rfl (opensF_one rfl (opens_int Try.underlying3) (by kernel_rfl))) (by kernel_rfl)) (fun _ _ _ => trivial)
theorem opens50 (enc : TypeId × Value → H) : Opens enc Try.prog 50 k50 (fun _ _ => True) :=
  Opens.imp (opens_struct (fun x : S50 => (x.f0, x.f1, x.f2)) (fun a => ⟨a.1, a.2.1, a.2.2⟩) (fun a => rfl) Try.underlying50
    (opensF_cons rfl (opens_bool Try.underlying4) (by kernel_rfl) rfl (opensF_cons rfl (opens_string Try.underlying9) (by kernel_rfl) rfl (opensF_one rfl (opens_int Try.underlying2) (by kernel_rfl)))) (by kernel_rfl)) (fun _ _ _ => trivial)
theorem opens52 (enc : TypeId × Value → H) : Opens enc Try.prog 52 k52 (fun _ _ => True) :=
  Opens.imp (opens_struct (fun x : S52 => (x.f0, x.f1, x.f2)) (fun a => ⟨a.1, a.2.1, a.2.2⟩) (fun a => rfl) Try.underlying52
    (opensF_cons rfl (opens_bool Try.underlying4) (by kernel_rfl) rfl (opensF_cons rfl (opens_string Try.underlying9) (by kernel_rfl) rfl (opensF_one rfl (opens50 enc) (by kernel_rfl)))) (by kernel_rfl)) (fun _ _ _ => trivial)
theorem opens43 (enc : TypeId × Value → H) : Opens enc Try.prog 43 k43 (fun _ _ => True) :=
  Opens.imp (opens_struct (fun x : S43 => (x.f0, x.f1)) (fun a => ⟨a.1, a.2⟩) (fun a => rfl) Try.underlying43
    (opensF_cons rfl (opens_string Try.underlying9) (by kernel_rfl) rfl (opensF_one rfl (opens_slice Try.underlying41 (opens52 enc) (by kernel_rfl)) (by kernel_rfl))) (by kernel_rfl)) (fun _ _ _ => trivial)
theorem opens54 (enc : TypeId × Value → H) : Opens enc Try.prog 54 k54 (fun _ _ => True) :=
  Opens.imp (opens_struct (fun x : S54 => (x.f0, x.f1, x.f2, x.f3, x.f4)) (fun a => ⟨a.1, a.2.1, a.2.2.1, a.2.2.2.1, a.2.2.2.2⟩) (fun a => rfl) Try.underlying54
    (opensF_cons rfl (opens_int Try.underlying3) (by kernel_rfl) rfl (opensF_cons rfl (opens43 enc) (by kernel_rfl) rfl (opensF_cons rfl (opens_string Try.underlying9) (by kernel_rfl) rfl (opensF_cons rfl (opens52 enc) (by kernel_rfl) rfl (opensF_one rfl (opens52 enc) (by kernel_rfl)))))) (by kernel_rfl)) (fun _ _ _ => trivial)
theorem opens46 (enc : TypeId × Value → H) : Opens enc Try.prog 46 k46 (fun r y => r.f1.length + 1 ≤ Rows.uptoBulk y) :=
  Opens.imp (opens_struct (fun x : S46 => (x.f0, x.f1)) (fun a => ⟨a.1, a.2⟩) (fun a => rfl) Try.underlying46
    (opensF_cons rfl (opens43 enc) (by kernel_rfl) rfl (opensF_one rfl (opens_slice Try.underlying44 (opens54 enc) (by kernel_rfl)) (by kernel_rfl))) (by kernel_rfl))
    (fun r y h => by
      obtain ⟨ys, rfl, y0, ys', rfl, -, y1, rfl, h1⟩ := h
      have := slice_bulk (fun _ => 1) (fun _ y _ => one_bulk y) h1
      rw [sum_ones] at this
      have h0 := one_bulk y0
      simp only [Rows.uptoBulk, Rows.uptoBulkAll]
      have : r.f1.length ≤ Rows.uptoBulk y1 := this
      omega)

/-- A program: its declarations, its rules. -/
def k25 : Kd (List S39 × List S46) := Kd.iso (Kd.pair (Kd.slice 39 k39) (Kd.slice 46 k46)) (fun g => g)
theorem k25_open {w : World} {g : List S39 × List S46} {cs : List Value} (h : k25.K w g cs) : ∃ A0 c0 A1 c1, cs = [.slice A0 g.1.length c0, .slice A1 g.2.length c1] ∧ g.1.length ≤ c0 ∧ k39.C w A0 g.1.length g.1 ∧ g.2.length ≤ c1 ∧ k46.C w A1 g.2.length g.2 := by
  obtain ⟨_, _, rfl, ⟨A0, c0, rfl, l0, g0⟩, ⟨A1, c1, rfl, l1, g1⟩⟩ := h
  exact ⟨A0, c0, A1, c1, rfl, l0, g0, l1, g1⟩
theorem litsD_length (ls : List S54) : (litsD ls).length ≤ ls.length := by
  rw [litsD, List.length_map]
  exact List.length_filter_le _ _
theorem uses_sum (rs : List S46) : (rs.flatMap atomsD).length ≤ (rs.map fun r => r.f1.length + 1).sum := by
  induction rs with
  | nil => simp
  | cons r rs ih =>
    have := litsD_length r.f1
    simp only [List.flatMap_cons, List.length_append, atomsD, List.length_cons, List.map_cons, List.sum_cons]
    omega
theorem mem_sum (rs : List S46) : ∀ r ∈ rs, r.f1.length + 1 ≤ (rs.map fun r => r.f1.length + 1).sum := by
  intro r hr
  induction rs with
  | nil => cases hr
  | cons q rs ih =>
    simp only [List.map_cons, List.sum_cons]
    rcases List.mem_cons.1 hr with rfl | hr
    · omega
    · have := ih hr
      omega
theorem len_sum (rs : List S46) : rs.length ≤ (rs.map fun r => r.f1.length + 1).sum := by
  induction rs with
  | nil => simp
  | cons q rs ih => simp only [List.length_cons, List.map_cons, List.sum_cons]; omega
/-- How a program stands to its bulk. -/
def Bulky (g : List S39 × List S46) (n : Nat) : Prop := g.1.length + (g.2.map fun r => r.f1.length + 1).sum ≤ n
theorem Bulky.fits {g : List S39 × List S46} {n : Nat} (h : Bulky g n) (hn : n ≤ 1048576) : Fits g.1 g.2 := by
  unfold Bulky at h
  have h1 := uses_sum g.2
  refine ⟨?_, ?_, fun r hr => ?_⟩
  · rw [usesD, List.length_append]; omega
  · have := len_sum g.2; omega
  · have := mem_sum g.2 r hr; omega
theorem opens25 (enc : TypeId × Value → H) : Opens enc Try.prog 25 k25 (fun g y => Bulky g (Rows.uptoBulk y)) :=
  Opens.imp (opens_struct (fun x : List S39 × List S46 => x) (fun a => a) (fun a => rfl) Try.underlying25
    (opensF_cons rfl (opens_slice Try.underlying22 (opens39 enc) (by kernel_rfl)) (by kernel_rfl) rfl (opensF_one rfl (opens_slice Try.underlying23 (opens46 enc) (by kernel_rfl)) (by kernel_rfl))) (by kernel_rfl))
    (fun g y h => by
      obtain ⟨ys, rfl, y0, ys', rfl, h0, y1, rfl, h1⟩ := h
      have a0 := slice_bulk (fun _ => 1) (fun _ y _ => one_bulk y) h0
      have a1 := slice_bulk (fun r : S46 => r.f1.length + 1) (fun _ y h => h) h1
      rw [sum_ones] at a0
      unfold Bulky
      simp only [Rows.uptoBulk, Rows.uptoBulkAll]
      have : g.1.length ≤ Rows.uptoBulk y0 := a0
      have : (g.2.map fun r => r.f1.length + 1).sum ≤ Rows.uptoBulk y1 := a1
      omega)
end Go.Proofs.Ytpcadcmfdbhmhaa.P
