/- value.Plain: a range over a string; its iterator is new memory. -/
import Derived.Test.YtdfjhhhbkgelaaaGreatDoorBase
import Derived.LoopTactic
import Derived.Lib.OthersKept
import Derived.Outline
namespace Go.Proofs.YtdfjhhhbkgelaaaGreatDoor.V
set_option linter.unusedVariables false
open Go.RowKit
set_option linter.unusedSimpArgs false

theorem decode_high (s : ByteArray) (i : Nat) (h : 128 ≤ (s.get! i).toNat) : 128 ≤ (Utf8.decode s i).1 := by
  unfold Utf8.decode
  simp only [Nat.add_zero]
  rw [if_neg (by omega)]
  repeat' split
  all_goals (simp only [Utf8.runeError, ge_iff_le] at *; first | assumption | omega | (simp_all; omega))

/-- Does a text need no marks? -/
def plainL (l : List UInt8) : Bool := match l with
  | [] => false
  | c :: t => !(l == [110, 111, 116]) && smallI (c.toNat : Int) && t.all fun b => wordI (b.toNat : Int)

theorem word_high (c : Nat) (h : 128 ≤ c) : wordI (c : Int) = false := by
  unfold wordI smallI
  simp
  omega
theorem wrap32_byte (c : UInt8) : wrap32 (c.toNat : Int) = (c.toNat : Int) := by
  have := c.toNat_lt
  unfold wrap32
  omega
/-- Behind so many bytes that may stand within a name. -/
def Upto (s : ByteArray) (pos : Nat) : Prop := (s.data.toList.take pos).all (fun b => wordI (b.toNat : Int)) = true
theorem upto_succ {s : ByteArray} {pos : Nat} (h : pos < s.size) (hu : Upto s pos) (hw : wordI ((s[pos]'h).toNat : Int) = true) : Upto s (pos + 1) := by
  unfold Upto at *
  rw [List.take_succ_eq_append_getElem (by simpa using h), List.all_append, hu]
  rw [ByteArray.getElem_eq_getElem_data] at hw
  simpa using hw
theorem plain_no {s : ByteArray} {pos : Nat} (h : pos < s.size) (h0 : smallI ((s.data.toList.headD 0).toNat : Int) = true) (hw : wordI ((s[pos]'h).toNat : Int) = false) : plainL s.data.toList = false := by
  have hm : s[pos] ∈ s.data.toList := by
    have : s[pos] = s.data.toList[pos]'(by simpa using h) := by simp [ByteArray.getElem_eq_getElem_data]
    rw [this]
    exact List.getElem_mem _
  unfold plainL
  cases hl : s.data.toList with
  | nil => rfl
  | cons c t =>
    rw [hl] at hm h0
    have hc : smallI (c.toNat : Int) = true := h0
    rcases List.mem_cons.1 hm with he | hm
    · rw [he] at hw
      have : wordI (c.toNat : Int) = true := by unfold wordI; rw [hc]; rfl
      rw [this] at hw
      cases hw
    · have : (t.all fun b => wordI (b.toNat : Int)) = false := by
        rw [List.all_eq_false]
        exact ⟨_, hm, by simp [hw]⟩
      simp [this]
theorem plain_yes {s : ByteArray} (hn : (s.data.toList == [110, 111, 116]) = false) (hne : 0 < s.size) (h0 : smallI ((s.data.toList.headD 0).toNat : Int) = true) (hu : Upto s s.size) : plainL s.data.toList = true := by
  unfold Upto at hu
  have hl' : s.data.toList.length = s.size := by simp
  rw [← hl', List.take_length] at hu
  cases hl : s.data.toList with
  | nil => rw [hl] at hl'; simp at hl'; omega
  | cons c t =>
    rw [hl] at hu h0 hn
    have hc : smallI (c.toNat : Int) = true := h0
    unfold plainL
    rw [List.all_cons, Bool.and_eq_true] at hu
    simp only [hn, hc, hu.2, Bool.not_false, Bool.and_self]

set_option maxRecDepth 100000 in
set_option maxHeartbeats 2000000 in
theorem plain_calls (s : ByteArray) (w : World) (hs : s.size ≤ maxLen) : Calls Tryz.prog 47 #[.string s] w fun e w' => e = .returned (.bool (plainL s.data.toList)) ∧ Below w.heap.size w w' := by
  unfold maxLen at hs
  by_cases h0 : s.toList = []
  · have hb : plainL s.data.toList = false := by rw [ByteArray.toList_eq] at h0; rw [h0]; rfl
    have HB := Lib.hid hb
    clear hb
    go_enter Tryz.func47, Tryz.ntmps47
    go_wp2_with (go_at_call 58; refine (small_calls _ _).mono ?_; rintro e w' ⟨rfl, rfl⟩)
    go_ret
    exact ⟨by rw [HB.out]; rfl, Below.refl _ _⟩
  · have h0e : s.toList.isEmpty = false := by simpa using h0
    have hpos : 0 < s.size := by
      rcases Nat.eq_zero_or_pos s.size with h | h
      · exact absurd (by rw [ByteArray.toList_eq]; exact List.length_eq_zero_iff.1 (by simpa using h)) h0
      · exact h
    by_cases h1 : s.toList = [110, 111, 116]
    · have hb : plainL s.data.toList = false := by rw [ByteArray.toList_eq] at h1; rw [h1]; decide
      have HB := Lib.hid hb
      clear hb
      have h1e : (s.toList == [110, 111, 116]) = true := by rw [h1]; rfl
      have H1 := Lib.hid h1
      clear h1
      go_enter Tryz.func47, Tryz.ntmps47
      go_wp2_with (go_at_call 58; refine (small_calls _ _).mono ?_; rintro e w' ⟨rfl, rfl⟩)
      go_ret
      exact ⟨by rw [HB.out]; rfl, Below.refl _ _⟩
    · have h1e : (s.toList == [110, 111, 116]) = false := by simpa using h1
      have hhd : s.data.toList.headD 0 = s[0] := by
        simp [List.headD_eq_head?_getD, List.head?_eq_getElem?, hpos, ByteArray.getElem_eq_getElem_data]
      have hw32 := wrap32_byte s[0]
      cases hsm : smallI (s[0].toNat : Int) with
      | false =>
        have hb : plainL s.data.toList = false := by
          unfold plainL
          cases hl : s.data.toList with
          | nil => rfl
          | cons c t =>
            rw [hl] at hhd
            have : c = s[0] := hhd
            rw [this]
            simp [hsm]
        have HB := Lib.hid hb
        have H3 : Hid (smallI (wrap32 (s[0].toNat : Int)) = false) := Lib.hid (by rw [hw32]; exact hsm)
        clear hb hsm hw32 hhd
        go_enter Tryz.func47, Tryz.ntmps47
        go_wp2_with (go_at_call 58; refine (small_calls _ _).mono ?_; rintro e w' ⟨rfl, rfl⟩; rw [H3.out])
        go_ret
        exact ⟨by rw [HB.out]; rfl, Below.refl _ _⟩
      | true =>
        have H3 : Hid (smallI (wrap32 (s[0].toNat : Int)) = true) := Lib.hid (by rw [hw32]; exact hsm)
        have H4 := Lib.hid (show smallI ((s.data.toList.headD 0).toNat : Int) = true by rw [hhd]; exact hsm)
        have H5 := Lib.hid (show (s.data.toList == [110, 111, 116]) = false by rw [← ByteArray.toList_eq]; exact h1e)
        clear hsm hw32 hhd
        go_enter Tryz.func47, Tryz.ntmps47
        go_wp2_with (go_at_call 58; refine (small_calls _ _).mono ?_; rintro e w' ⟨rfl, rfl⟩; rw [H3.out])
        go_loopw [4] (fun _ wr => ∃ pos, pos ≤ s.size ∧ Upto s pos ∧ wr.heap[w.heap.size]? = some (.stringIter s pos) ∧ Below w.heap.size w wr) (fun _ wr => s.size - wr.iterPos w.heap.size)
        case atStart => exact ⟨0, Nat.zero_le _, by simp [Upto], World.iter_heap _ _ _, (Below.refl _ _).alloc (Nat.le_refl _) _⟩
        case round =>
          obtain ⟨pos, hp, hu, hk, hb⟩ := hrel
          have HU := Lib.hid hu
          have HB := Lib.hid hb
          have HK := Lib.hid hk
          have HI := Lib.hid (iterPos_of hk)
          clear hu hb
          by_cases hlt : pos < s.size
          · by_cases ha : (s[pos]'hlt).toNat < 128
            · have hnext : ∀ ty, (Instr.next (.pointer (some ⟨w.heap.size, 0, none⟩)) true ty).run Tryz.prog wr = _ := fun ty => Lib.run_next_ascii_at wr w.heap.size s pos ty hk hlt ha
              have hk1 := Lib.hid (Lib.iterAt_heap wr w.heap.size s pos (pos + 1) hk)
              have hb1 := Lib.hid (Lib.below_iterAt HB.out (Nat.le_refl _) s (pos + 1))
              generalize wr.iterAt w.heap.size s (pos + 1) = W1 at hnext hk1 hb1
              clear hk
              cases hw : wordI ((s[pos]'hlt).toNat : Int) with
              | true =>
                have H6 := Lib.hid hw
                clear hw
                go_wp2_with (go_at_call 59; refine (word_calls _ _).mono ?_; rintro e w' ⟨rfl, rfl⟩; rw [H6.out])
                go_roundw
                case rel => exact ⟨pos + 1, hlt, upto_succ hlt HU.out H6.out, hk1.out, hb1.out⟩
                case measure => rw [iterPos_of hk1.out, HI.out]; omega
              | false =>
                have H6 := Lib.hid hw
                clear hw
                have H7 := Lib.hid (plain_no hlt H4.out H6.out)
                go_wp2_with (go_at_call 59; refine (word_calls _ _).mono ?_; rintro e w' ⟨rfl, rfl⟩; rw [H6.out])
                go_ret
                exact ⟨by rw [H7.out]; rfl, hb1.out⟩
            · have hnext : ∀ ty, (Instr.next (.pointer (some ⟨w.heap.size, 0, none⟩)) true ty).run Tryz.prog wr = _ := fun ty => Lib.run_next_any_at wr w.heap.size s pos ty hk hlt
              have hb1 := Lib.hid (Lib.below_iterAt HB.out (Nat.le_refl _) s (pos + (Utf8.decode s pos).2))
              have hg : s.get! pos = s[pos]'hlt := by simp [ByteArray.get!, ByteArray.getElem_eq_getElem_data, getElem!_def, hlt]
              have hd := decode_high s pos (by rw [hg]; omega)
              generalize wr.iterAt w.heap.size s (pos + (Utf8.decode s pos).2) = W1 at hnext hb1
              generalize (Utf8.decode s pos).1 = c at hnext hd
              have H7 := Lib.hid (plain_no hlt H4.out (word_high (s[pos]'hlt).toNat (by omega)))
              have H6 := Lib.hid (word_high c hd)
              clear hk hg
              go_wp2_with (go_at_call 59; refine (word_calls _ _).mono ?_; rintro e w' ⟨rfl, rfl⟩; rw [H6.out])
              go_ret
              exact ⟨by rw [H7.out]; rfl, hb1.out⟩
          · have hnext : ∀ ty, (Instr.next (.pointer (some ⟨w.heap.size, 0, none⟩)) true ty).run Tryz.prog wr = _ := fun ty => Lib.run_next_end_at wr w.heap.size s pos ty hk hlt
            have H7 := Lib.hid (plain_yes H5.out hpos H4.out (by have : pos = s.size := by omega
                                                                 rw [← this]; exact HU.out))
            clear hk
            go_wp2_with (go_at_call 59; refine (word_calls _ _).mono ?_; rintro e w' ⟨rfl, rfl⟩)
            go_ret
            exact ⟨by rw [H7.out]; rfl, HB.out⟩
end Go.Proofs.YtdfjhhhbkgelaaaGreatDoor.V
