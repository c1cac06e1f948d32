/- The runes' kinds, Sym, Int: each by a contract. value.Plain: a range over a string; its iterator is new memory. The tokens of a text, in lists of bytes, with no program in sight. What bytes are: package token's small functions, each by a contract; its scanned text (*text): more, run. (*text).skip: past blanks and remarks; (*text).named: a word. DERIVED: THE SHELF's CONTRACTS AT THIS DUMP, IN PLAIN WORDS (tools/lay-plain.mjs out of 'TryzShelf.lean', which tools/lay-shelf.mjs wrote): THE SAME DECLARATION (*text).number: a number. What a row of law06 opens: the laid variables, a world for the witness. The parts of sync.Once's slow road, each a contract of its own (after the guide's worked texts on sync.Once): marks of the race detector, the lock, the two defe -/
import Derived.Test.YtminbdcabacfbaaGreatDoorProg
import Derived.Tactics
import Derived.Tactics2
import Derived.WalkKit
import Derived.WalkLawsBesides
import Derived.WalkSpells
import Derived.Below
import Derived.Lib.Hide
import Derived.KernelRfl
import Derived.LoopTactic
import Derived.Lib.OthersKept
import Derived.Outline
import Derived.Lib.ParseIntB
import Derived.OneCell
import Derived.Shelf.Abstract
import Derived.WalkSmall
import Derived.Deep.RegionHeld3
import Derived.Shelf.Strings.Builder1
import Derived.Shelf.Strings.Builder2
import Derived.Shelf.Small.Strs
import Derived.Shelf.Strings.BuilderF
import Derived.Shelf.Strings.BuilderK
import Derived.Shelf.Strings.Builder2Cap
import Derived.Shelf.Strconv.Itoa0
import Derived.Shelf.Strconv.Itoa1
import Derived.Shelf.LaysM
import Derived.Shelf.Strconv.Itoa2
import Derived.Shelf.Strconv.Itoa3
import Derived.Shelf.Strconv.Itoa4
import Derived.Shelf.Strconv.ParseIntEmpty
import Derived.Shelf.Strconv.Clone
import Derived.Shelf.Strconv.SyntaxError
import Derived.Shelf.LaysC
import Derived.Shelf.Strconv.ToError
import Derived.Shelf.Strconv.Lower
import Derived.Shelf.Strconv.ParseUint10
import Derived.Shelf.Strconv.ParseUint10Empty
import Derived.Shelf.Strconv.ParseUint10Any
import Derived.Shelf.Strconv.ParseInt10
import Derived.Shelf.Strconv.RangeError
import Derived.Shelf.Strconv.ToErrorRange
import Derived.Shelf.Strconv.ParseUintEmpty
import Derived.Shelf.Strconv.ParseUint10b64
import Derived.Shelf.Strconv.ParseUint10b32
import Derived.Shelf.Strconv.ParseUint10b16
import Derived.Shelf.Strconv.ParseUint10b8
import Derived.Shelf.Strconv.ParseUint10At
import Derived.Shelf.Strconv.ParseInt10At64
import Derived.Shelf.Strconv.ParseInt10At32
import Derived.Shelf.Strconv.ParseInt10At16
import Derived.Shelf.Strconv.ParseInt10At8
import Derived.Shelf.Strconv.ParseInt10All
import Derived.Shelf.Strconv.ParseIntPublic10
import Derived.Shelf.Strconv.ErrVarParseInt
import Derived.Shelf.Strings.Search1
import Derived.Shelf.Strings.Search2
import Derived.Shelf.Strings.Search3
import Derived.Shelf.Strings.Count
import Derived.Shelf.Strings.Shaped
import Derived.Shelf.Strings.Prefix
import Derived.Shelf.Slices.Turned
import Derived.Ground.SlgfProg
import Derived.Shelf.SlicesE.IndexFunc
import Derived.Test.YtminbdcabacfbaaGreatDoorCards
import Derived.Test.YtminbdcabacfbaaGreatDoorTie
import Derived.ProofKit
import Derived.OpenShut
import Derived.OpenVars
import Derived.ShutString
import Derived.ChangeOld
import Derived.Deep.DeepHandedRow
import Derived.Lib.LaidTab
import Derived.Stop.LaidErr
import Derived.Defers
import Derived.Laws.Pointers
import Derived.Laws.LoneSync
import Derived.RegionTactic
import Derived.RegionCalls
namespace Go.Proofs.YtminbdcabacfbaaGreatDoor.V
set_option linter.unusedVariables false
open Go.RowKit
set_option linter.unusedSimpArgs false

/-- What runes are. -/
def smallI (c : Int) : Bool := decide (97 ≤ c) && decide (c ≤ 122)
def wordI (c : Int) : Bool := smallI c || (decide (65 ≤ c) && decide (c ≤ 90)) || (decide (48 ≤ c) && decide (c ≤ 57)) || decide (c = 95)
theorem small_calls (c : Int) (w : World) : Calls Tryz.prog 106 #[.int .i32 c] w fun e w' => e = .returned (.bool (smallI c)) ∧ w = w' := by
  unfold smallI
  by_cases h1 : 97 ≤ c
  · have h1d : decide (97 ≤ c) = true := decide_eq_true h1
    go_enter Tryz.func106, Tryz.ntmps106
    go_wp2
    go_ret
    exact ⟨by simp [h1], rfl⟩
  · have h1d : decide (97 ≤ c) = false := decide_eq_false h1
    go_enter Tryz.func106, Tryz.ntmps106
    go_wp2
    go_ret
    exact ⟨by simp [h1], rfl⟩
theorem word_calls (c : Int) (w : World) : Calls Tryz.prog 107 #[.int .i32 c] w fun e w' => e = .returned (.bool (wordI c)) ∧ w = w' := by
  unfold wordI
  cases hs : smallI c with
  | true =>
    go_enter Tryz.func107, Tryz.ntmps107
    go_wp2_with (go_at_call 106; refine (small_calls _ _).mono ?_; rintro e w' ⟨rfl, rfl⟩; rw [hs])
    go_ret
    exact ⟨by simp, rfl⟩
  | false =>
    by_cases h1 : 65 ≤ c
    · have h1d : decide (65 ≤ c) = true := decide_eq_true h1
      have h3 : 48 ≤ c := by omega
      have h3d : decide (48 ≤ c) = true := decide_eq_true h3
      by_cases h2 : c ≤ 90
      · have h2d : decide (c ≤ 90) = true := decide_eq_true h2
        go_enter Tryz.func107, Tryz.ntmps107
        go_wp2_with (go_at_call 106; refine (small_calls _ _).mono ?_; rintro e w' ⟨rfl, rfl⟩; rw [hs])
        go_ret
        exact ⟨by simp [h1, h2], rfl⟩
      · have h2d : decide (c ≤ 90) = false := decide_eq_false h2
        have h4 : ¬ c ≤ 57 := by omega
        have h4d : decide (c ≤ 57) = false := decide_eq_false h4
        go_enter Tryz.func107, Tryz.ntmps107
        go_wp2_with (go_at_call 106; refine (small_calls _ _).mono ?_; rintro e w' ⟨rfl, rfl⟩; rw [hs])
        go_ret
        refine ⟨?_, rfl⟩
        rw [h2d, h4d, h1d, h3d]
        by_cases h5 : c = 95 <;> simp [h5]
    · have h1d : decide (65 ≤ c) = false := decide_eq_false h1
      have h5 : ¬ c = 95 := by omega
      by_cases h3 : 48 ≤ c
      · have h3d : decide (48 ≤ c) = true := decide_eq_true h3
        by_cases h4 : c ≤ 57
        · have h4d : decide (c ≤ 57) = true := decide_eq_true h4
          go_enter Tryz.func107, Tryz.ntmps107
          go_wp2_with (go_at_call 106; refine (small_calls _ _).mono ?_; rintro e w' ⟨rfl, rfl⟩; rw [hs])
          go_ret
          exact ⟨by simp [h1, h3, h4], rfl⟩
        · have h4d : decide (c ≤ 57) = false := decide_eq_false h4
          have h5b : (c == 95) = false := by simpa using h5
          go_enter Tryz.func107, Tryz.ntmps107
          go_wp2_with (go_at_call 106; refine (small_calls _ _).mono ?_; rintro e w' ⟨rfl, rfl⟩; rw [hs])
          go_ret
          exact ⟨by simp [h4, h5]; omega, rfl⟩
      · have h3d : decide (48 ≤ c) = false := decide_eq_false h3
        have h5b : (c == 95) = false := by simpa using h5
        go_enter Tryz.func107, Tryz.ntmps107
        go_wp2_with (go_at_call 106; refine (small_calls _ _).mono ?_; rintro e w' ⟨rfl, rfl⟩; rw [hs])
        go_ret
        exact ⟨by simp [h5]; omega, rfl⟩

theorem sym_calls (s : ByteArray) (w : World) : Calls Tryz.prog 95 #[.string s] w fun e w' => e = .returned (.agg #[.bool true, .string s, .int .i64 0]) ∧ Below w.heap.size w w' := by
  go_enter Tryz.func95, Tryz.ntmps95
  go_wp2
  refine bodyPost_ret (v := .agg #[.bool true, .string s, .int .i64 0]) (by simp [results, Tryz.results95, go_sem]) rfl ⟨rfl, (Below.refl _ _).alloc (Nat.le_refl _) _⟩
theorem cell_below {w w1 : World} (h : Below w.heap.size w w1) {a : Addr} {v : Value} (hc : w.cell? a = some v) : w1.cell? a = some v := (h.cell (World.block_lt_of_cell? w a hc)).trans hc
theorem below_then {B : Nat} {w W w3 : World} (h : Below B w W) (h3 : Below W.heap.size W w3) (hB : B ≤ W.heap.size) : Below B w w3 := h.trans (h3.mono hB)
theorem below_then' {B : Nat} {w W w3 : World} (h : Below B w W) (h3 : Below W.heap.size W w3) (hB : B ≤ w.heap.size) : Below B w w3 := h.trans (h3.mono (Nat.le_trans hB h.size))
end Go.Proofs.YtminbdcabacfbaaGreatDoor.V

namespace Go.Proofs.YtminbdcabacfbaaGreatDoor.V
set_option linter.unusedVariables false
open Go.RowKit
set_option linter.unusedSimpArgs false

theorem decode_high (s : ByteArray) (i : Nat) (h : 128 ≤ (s.get! i).toNat) : 128 ≤ (Utf8.decode s i).1 := by
  unfold Utf8.decode
  simp only [Nat.add_zero]
  rw [if_neg (by omega)]
  repeat' split
  all_goals (simp only [Utf8.runeError, ge_iff_le] at *; first | assumption | omega | (simp_all; omega))

/-- Does a text need no marks? -/
def plainL (l : List UInt8) : Bool := match l with
  | [] => false
  | c :: t => !(l == [110, 111, 116]) && smallI (c.toNat : Int) && t.all fun b => wordI (b.toNat : Int)

theorem word_high (c : Nat) (h : 128 ≤ c) : wordI (c : Int) = false := by
  unfold wordI smallI
  simp
  omega
theorem wrap32_byte (c : UInt8) : wrap32 (c.toNat : Int) = (c.toNat : Int) := by
  have := c.toNat_lt
  unfold wrap32
  omega
/-- Behind so many bytes that may stand within a name. -/
def Upto (s : ByteArray) (pos : Nat) : Prop := (s.data.toList.take pos).all (fun b => wordI (b.toNat : Int)) = true
theorem upto_succ {s : ByteArray} {pos : Nat} (h : pos < s.size) (hu : Upto s pos) (hw : wordI ((s[pos]'h).toNat : Int) = true) : Upto s (pos + 1) := by
  unfold Upto at *
  rw [List.take_succ_eq_append_getElem (by simpa using h), List.all_append, hu]
  rw [ByteArray.getElem_eq_getElem_data] at hw
  simpa using hw
theorem plain_no {s : ByteArray} {pos : Nat} (h : pos < s.size) (h0 : smallI ((s.data.toList.headD 0).toNat : Int) = true) (hw : wordI ((s[pos]'h).toNat : Int) = false) : plainL s.data.toList = false := by
  have hm : s[pos] ∈ s.data.toList := by
    have : s[pos] = s.data.toList[pos]'(by simpa using h) := by simp [ByteArray.getElem_eq_getElem_data]
    rw [this]
    exact List.getElem_mem _
  unfold plainL
  cases hl : s.data.toList with
  | nil => rfl
  | cons c t =>
    rw [hl] at hm h0
    have hc : smallI (c.toNat : Int) = true := h0
    rcases List.mem_cons.1 hm with he | hm
    · rw [he] at hw
      have : wordI (c.toNat : Int) = true := by unfold wordI; rw [hc]; rfl
      rw [this] at hw
      cases hw
    · have : (t.all fun b => wordI (b.toNat : Int)) = false := by
        rw [List.all_eq_false]
        exact ⟨_, hm, by simp [hw]⟩
      simp [this]
theorem plain_yes {s : ByteArray} (hn : (s.data.toList == [110, 111, 116]) = false) (hne : 0 < s.size) (h0 : smallI ((s.data.toList.headD 0).toNat : Int) = true) (hu : Upto s s.size) : plainL s.data.toList = true := by
  unfold Upto at hu
  have hl' : s.data.toList.length = s.size := by simp
  rw [← hl', List.take_length] at hu
  cases hl : s.data.toList with
  | nil => rw [hl] at hl'; simp at hl'; omega
  | cons c t =>
    rw [hl] at hu h0 hn
    have hc : smallI (c.toNat : Int) = true := h0
    unfold plainL
    rw [List.all_cons, Bool.and_eq_true] at hu
    simp only [hn, hc, hu.2, Bool.not_false, Bool.and_self]

set_option maxRecDepth 100000 in
set_option maxHeartbeats 2000000 in
theorem plain_calls (s : ByteArray) (w : World) (hs : s.size ≤ maxLen) : Calls Tryz.prog 76 #[.string s] w fun e w' => e = .returned (.bool (plainL s.data.toList)) ∧ Below w.heap.size w w' := by
  unfold maxLen at hs
  by_cases h0 : s.toList = []
  · have hb : plainL s.data.toList = false := by rw [ByteArray.toList_eq] at h0; rw [h0]; rfl
    have HB := Lib.hid hb
    clear hb
    go_enter Tryz.func76, Tryz.ntmps76
    go_wp2_with (go_at_call 106; refine (small_calls _ _).mono ?_; rintro e w' ⟨rfl, rfl⟩)
    go_ret
    exact ⟨by rw [HB.out]; rfl, Below.refl _ _⟩
  · have h0e : s.toList.isEmpty = false := by simpa using h0
    have hpos : 0 < s.size := by
      rcases Nat.eq_zero_or_pos s.size with h | h
      · exact absurd (by rw [ByteArray.toList_eq]; exact List.length_eq_zero_iff.1 (by simpa using h)) h0
      · exact h
    by_cases h1 : s.toList = [110, 111, 116]
    · have hb : plainL s.data.toList = false := by rw [ByteArray.toList_eq] at h1; rw [h1]; decide
      have HB := Lib.hid hb
      clear hb
      have h1e : (s.toList == [110, 111, 116]) = true := by rw [h1]; rfl
      have H1 := Lib.hid h1
      clear h1
      go_enter Tryz.func76, Tryz.ntmps76
      go_wp2_with (go_at_call 106; refine (small_calls _ _).mono ?_; rintro e w' ⟨rfl, rfl⟩)
      go_ret
      exact ⟨by rw [HB.out]; rfl, Below.refl _ _⟩
    · have h1e : (s.toList == [110, 111, 116]) = false := by simpa using h1
      have hhd : s.data.toList.headD 0 = s[0] := by
        simp [List.headD_eq_head?_getD, List.head?_eq_getElem?, hpos, ByteArray.getElem_eq_getElem_data]
      have hw32 := wrap32_byte s[0]
      cases hsm : smallI (s[0].toNat : Int) with
      | false =>
        have hb : plainL s.data.toList = false := by
          unfold plainL
          cases hl : s.data.toList with
          | nil => rfl
          | cons c t =>
            rw [hl] at hhd
            have : c = s[0] := hhd
            rw [this]
            simp [hsm]
        have HB := Lib.hid hb
        have H3 : Hid (smallI (wrap32 (s[0].toNat : Int)) = false) := Lib.hid (by rw [hw32]; exact hsm)
        clear hb hsm hw32 hhd
        go_enter Tryz.func76, Tryz.ntmps76
        go_wp2_with (go_at_call 106; refine (small_calls _ _).mono ?_; rintro e w' ⟨rfl, rfl⟩; rw [H3.out])
        go_ret
        exact ⟨by rw [HB.out]; rfl, Below.refl _ _⟩
      | true =>
        have H3 : Hid (smallI (wrap32 (s[0].toNat : Int)) = true) := Lib.hid (by rw [hw32]; exact hsm)
        have H4 := Lib.hid (show smallI ((s.data.toList.headD 0).toNat : Int) = true by rw [hhd]; exact hsm)
        have H5 := Lib.hid (show (s.data.toList == [110, 111, 116]) = false by rw [← ByteArray.toList_eq]; exact h1e)
        clear hsm hw32 hhd
        go_enter Tryz.func76, Tryz.ntmps76
        go_wp2_with (go_at_call 106; refine (small_calls _ _).mono ?_; rintro e w' ⟨rfl, rfl⟩; rw [H3.out])
        go_loopw [4] (fun _ wr => ∃ pos, pos ≤ s.size ∧ Upto s pos ∧ wr.heap[w.heap.size]? = some (.stringIter s pos) ∧ Below w.heap.size w wr) (fun _ wr => s.size - wr.iterPos w.heap.size)
        case atStart => exact ⟨0, Nat.zero_le _, by simp [Upto], World.iter_heap _ _ _, (Below.refl _ _).alloc (Nat.le_refl _) _⟩
        case round =>
          obtain ⟨pos, hp, hu, hk, hb⟩ := hrel
          have HU := Lib.hid hu
          have HB := Lib.hid hb
          have HK := Lib.hid hk
          have HI := Lib.hid (iterPos_of hk)
          clear hu hb
          by_cases hlt : pos < s.size
          · by_cases ha : (s[pos]'hlt).toNat < 128
            · have hnext : ∀ ty, (Instr.next (.pointer (some ⟨w.heap.size, 0, none⟩)) true ty).run Tryz.prog wr = _ := fun ty => Lib.run_next_ascii_at wr w.heap.size s pos ty hk hlt ha
              have hk1 := Lib.hid (Lib.iterAt_heap wr w.heap.size s pos (pos + 1) hk)
              have hb1 := Lib.hid (Lib.below_iterAt HB.out (Nat.le_refl _) s (pos + 1))
              generalize wr.iterAt w.heap.size s (pos + 1) = W1 at hnext hk1 hb1
              clear hk
              cases hw : wordI ((s[pos]'hlt).toNat : Int) with
              | true =>
                have H6 := Lib.hid hw
                clear hw
                go_wp2_with (go_at_call 107; refine (word_calls _ _).mono ?_; rintro e w' ⟨rfl, rfl⟩; rw [H6.out])
                go_roundw
                case rel => exact ⟨pos + 1, hlt, upto_succ hlt HU.out H6.out, hk1.out, hb1.out⟩
                case measure => rw [iterPos_of hk1.out, HI.out]; omega
              | false =>
                have H6 := Lib.hid hw
                clear hw
                have H7 := Lib.hid (plain_no hlt H4.out H6.out)
                go_wp2_with (go_at_call 107; refine (word_calls _ _).mono ?_; rintro e w' ⟨rfl, rfl⟩; rw [H6.out])
                go_ret
                exact ⟨by rw [H7.out]; rfl, hb1.out⟩
            · have hnext : ∀ ty, (Instr.next (.pointer (some ⟨w.heap.size, 0, none⟩)) true ty).run Tryz.prog wr = _ := fun ty => Lib.run_next_any_at wr w.heap.size s pos ty hk hlt
              have hb1 := Lib.hid (Lib.below_iterAt HB.out (Nat.le_refl _) s (pos + (Utf8.decode s pos).2))
              have hg : s.get! pos = s[pos]'hlt := by simp [ByteArray.get!, ByteArray.getElem_eq_getElem_data, getElem!_def, hlt]
              have hd := decode_high s pos (by rw [hg]; omega)
              generalize wr.iterAt w.heap.size s (pos + (Utf8.decode s pos).2) = W1 at hnext hb1
              generalize (Utf8.decode s pos).1 = c at hnext hd
              have H7 := Lib.hid (plain_no hlt H4.out (word_high (s[pos]'hlt).toNat (by omega)))
              have H6 := Lib.hid (word_high c hd)
              clear hk hg
              go_wp2_with (go_at_call 107; refine (word_calls _ _).mono ?_; rintro e w' ⟨rfl, rfl⟩; rw [H6.out])
              go_ret
              exact ⟨by rw [H7.out]; rfl, hb1.out⟩
          · have hnext : ∀ ty, (Instr.next (.pointer (some ⟨w.heap.size, 0, none⟩)) true ty).run Tryz.prog wr = _ := fun ty => Lib.run_next_end_at wr w.heap.size s pos ty hk hlt
            have H7 := Lib.hid (plain_yes H5.out hpos H4.out (by have : pos = s.size := by omega
                                                                 rw [← this]; exact HU.out))
            clear hk
            go_wp2_with (go_at_call 107; refine (word_calls _ _).mono ?_; rintro e w' ⟨rfl, rfl⟩)
            go_ret
            exact ⟨by rw [H7.out]; rfl, HB.out⟩
end Go.Proofs.YtminbdcabacfbaaGreatDoor.V

namespace Go.Proofs.YtminbdcabacfbaaGreatDoor.V
set_option linter.unusedVariables false
set_option linter.unusedSimpArgs false

def blankI (c : Int) : Bool := c == 9 || c == 10 || c == 13 || c == 32
def sml (c : Int) : Bool := decide (97 ≤ c) && decide (c ≤ 122)
def bgI (c : Int) : Bool := decide (65 ≤ c) && decide (c ≤ 90)
def figI (c : Int) : Bool := decide (48 ≤ c) && decide (c ≤ 57)
def wrdI (c : Int) : Bool := sml c || bgI c || figI c || c == 95
def lineI (c : Int) : Bool := !(c == 10)
def gapI (c : Int) : Bool := blankI c || c == 37
/-- Of a byte. -/
def ofB (P : Int → Bool) (b : UInt8) : Bool := P (b.toNat : Int)

structure Tok where
  k : Nat
  s : List UInt8
  n : Int
  q : Bool

inductive Got where
  | bad (e : Nat)
  | tok (t : Tok) (r : List UInt8)

/-- Behind blanks and remarks; within a remark or not. -/
def skipR : Bool → List UInt8 → List UInt8
  | _, [] => []
  | m, c :: t => if !(m || c == 37) && !ofB blankI c then c :: t else skipR ((m || c == 37) && !(c == 10)) t

/-- Behind a mark: the name's bytes, and what is left. -/
def quotL : List UInt8 → Option (List UInt8 × List UInt8)
  | [] => none
  | [c] => if c == 39 then some ([], []) else none
  | c :: d :: u =>
    if c == 39 then some ([], d :: u) else
    if c == 10 then none else
    if c == 92 then
      if d == 110 || d == 39 || d == 92 then (quotL u).map fun p => ((if d == 110 then 10 else d) :: p.1, p.2) else none
    else (quotL (d :: u)).map fun p => (c :: p.1, p.2)

def qres : Option (List UInt8 × List UInt8) → Got
  | some p => .tok ⟨1, p.1, 0, true⟩ p.2
  | none => .bad 2

def namedL (k : Nat) (l : List UInt8) : Got :=
  if 32 < (l.takeWhile (ofB wrdI)).length then .bad 4 else .tok ⟨k, l.takeWhile (ofB wrdI), 0, false⟩ (l.dropWhile (ofB wrdI))

def numL (c : UInt8) (t : List UInt8) : Got :=
  match Lib.parseIntB 64 (c :: t.takeWhile (ofB figI)) with
  | .ok v => .tok ⟨3, [], v, false⟩ (t.dropWhile (ofB figI))
  | _ => .bad 3

def markTwo (l : List UInt8) : Bool := List.isPrefixOf [58, 45] l || List.isPrefixOf [60, 61] l || List.isPrefixOf [62, 61] l || List.isPrefixOf [33, 61] l
def markOne (c : UInt8) : Bool := c == 40 || c == 41 || c == 44 || c == 46 || c == 47 || c == 60 || c == 62 || c == 61
def markL (l : List UInt8) : Got :=
  if markTwo l then .tok ⟨4, l.take 2, 0, false⟩ (l.drop 2)
  else if markOne (l.headD 0) then .tok ⟨4, l.take 1, 0, false⟩ (l.drop 1)
  else .bad 2

/-- The token at a text's head. -/
def oneL (c : UInt8) (t : List UInt8) : Got :=
  if ofB sml c then namedL 1 (c :: t)
  else if ofB bgI c then namedL 2 (c :: t)
  else if ofB figI c || (c == 45 && !t.isEmpty && ofB figI (t.headD 0)) then numL c t
  else if c == 39 then qres (quotL t)
  else markL (c :: t)

abbrev TP' := Tok × Nat
inductive Scan where
  | bad (at_ : Nat) (e : Nat)
  | ok (l : List (Tok × Nat))

def Scan.cons (x : Tok × Nat) : Scan → Scan
  | .bad a e => .bad a e
  | .ok l => .ok (x :: l)
def Scan.app (xs : List (Tok × Nat)) : Scan → Scan
  | .bad a e => .bad a e
  | .ok l => .ok (xs ++ l)

/-- The tokens of what is left of a text of N bytes. -/
def scanF : Nat → Nat → List UInt8 → Scan
  | 0, _, _ => .ok []
  | f + 1, N, l => match skipR false l with
    | [] => .ok []
    | c :: t => match oneL c t with
      | .bad e => .bad (N - (c :: t).length) e
      | .tok k r => (scanF f N r).cons (k, N - (c :: t).length)

def scanL (s : List UInt8) : Scan := if 65536 < s.length then .bad 0 4 else scanF (s.length + 1) s.length s

theorem length_takeDrop (P : UInt8 → Bool) (l : List UInt8) : (l.takeWhile P).length + (l.dropWhile P).length = l.length := by
  rw [← List.length_append, List.takeWhile_append_dropWhile]

theorem skipR_le (l : List UInt8) : ∀ m, (skipR m l).length ≤ l.length := by
  induction l with
  | nil => intro m; simp [skipR]
  | cons c t ih =>
    intro m
    unfold skipR
    split
    · exact Nat.le_refl _
    · exact Nat.le_succ_of_le (ih _)

theorem quotL_lt : ∀ (n : Nat) (l : List UInt8), l.length ≤ n → ∀ b r, quotL l = some (b, r) → r.length < l.length := by
  intro n
  induction n with
  | zero =>
    intro l hl b r h
    match l, hl with
    | [], _ => simp [quotL] at h
  | succ n ih =>
    intro l hl b r h
    match l with
    | [] => simp [quotL] at h
    | [c] =>
      unfold quotL at h
      split at h
      · simp at h; rw [← h.2]; simp
      · simp at h
    | c :: d :: u =>
      unfold quotL at h
      split at h
      · simp at h; rw [← h.2]; simp
      · split at h
        · simp at h
        · split at h
          · split at h
            · simp only [Option.map_eq_some_iff] at h
              obtain ⟨p, hp, he⟩ := h
              have := ih u (by simp at hl; omega) p.1 p.2 hp
              simp at he
              rw [← he.2]; simp; omega
            · simp at h
          · simp only [Option.map_eq_some_iff] at h
            obtain ⟨p, hp, he⟩ := h
            have := ih (d :: u) (by simp at hl ⊢; omega) p.1 p.2 hp
            simp at he this
            rw [← he.2]; simp; omega

theorem oneL_lt (c : UInt8) (t : List UInt8) (k : Tok) (r : List UInt8) (h : oneL c t = .tok k r) : r.length < (c :: t).length := by
  have hn : ∀ kk, (namedL kk (c :: t) = .tok k r) → ofB wrdI c = true → r.length < (c :: t).length := by
    intro kk h hc
    unfold namedL at h
    split at h
    · simp at h
    · simp only [Got.tok.injEq] at h
      rw [← h.2]
      have := length_takeDrop (ofB wrdI) (c :: t)
      rw [List.takeWhile_cons_of_pos hc] at this
      simp at this ⊢
      omega
  unfold oneL at h
  split at h
  · exact hn 1 h (by simp_all [ofB, wrdI])
  · split at h
    · exact hn 2 h (by simp_all [ofB, wrdI])
    · split at h
      · unfold numL at h
        split at h
        · simp only [Got.tok.injEq] at h
          rw [← h.2]
          have := length_takeDrop (ofB figI) t
          simp
          omega
        · simp at h
      · split at h
        · unfold qres at h
          split at h
          · rename_i p hp
            simp only [Got.tok.injEq] at h
            have := quotL_lt _ t (Nat.le_refl _) p.1 p.2 hp
            rw [← h.2]; simp; omega
          · simp at h
        · unfold markL at h
          split at h
          · simp only [Got.tok.injEq] at h
            rw [← h.2]; simp; omega
          · split at h
            · simp only [Got.tok.injEq] at h
              rw [← h.2]; simp
            · simp at h

/-- More rounds than bytes are as good as any. -/
theorem scanF_more (f : Nat) : ∀ (g N : Nat) (l : List UInt8), l.length < f → l.length < g → scanF f N l = scanF g N l := by
  induction f with
  | zero => intro g N l h; omega
  | succ f ih =>
    intro g N l h1 h2
    match g, h2 with
    | g + 1, h2 =>
      unfold scanF
      have hs := skipR_le l false
      split
      · rfl
      · rename_i c t he
        rw [he] at hs
        split
        · rfl
        · rename_i k r ho
          have := oneL_lt c t k r ho
          rw [ih g N r (by omega) (by omega)]

/-- One step. -/
def scanT (N : Nat) (l : List UInt8) : Scan := scanF (l.length + 1) N l
theorem scanT_nil (N : Nat) (l : List UInt8) (h : skipR false l = []) : scanT N l = .ok [] := by
  unfold scanT scanF
  rw [h]
theorem scanT_bad (N : Nat) (l : List UInt8) (c : UInt8) (t : List UInt8) (e : Nat) (h : skipR false l = c :: t) (ho : oneL c t = .bad e) : scanT N l = .bad (N - (c :: t).length) e := by
  unfold scanT scanF
  rw [h]
  simp only [ho]
theorem scanT_tok (N : Nat) (l : List UInt8) (c : UInt8) (t : List UInt8) (k : Tok) (r : List UInt8) (h : skipR false l = c :: t) (ho : oneL c t = .tok k r) : scanT N l = (scanT N r).cons (k, N - (c :: t).length) := by
  have hs := skipR_le l false
  have := oneL_lt c t k r ho
  rw [h] at hs
  unfold scanT
  rw [scanF]
  rw [h]
  simp only [ho]
  rw [scanF_more l.length (r.length + 1) N r (by omega) (by omega)]
theorem scanT_skip (N : Nat) (l : List UInt8) : scanT N (skipR false l) = scanT N l := by
  have hs : ∀ (l : List UInt8) (m : Bool), skipR false (skipR m l) = skipR m l := by
    intro l
    induction l with
    | nil => intro m; simp [skipR]
    | cons c t ih =>
      intro m
      rw [skipR]
      split
      · rename_i h
        unfold skipR
        rw [if_pos]
        simp_all
      · exact ih _
  cases h : skipR false l with
  | nil => rw [scanT_nil N l h, scanT_nil N [] rfl]
  | cons c t =>
    have h2 : skipR false (c :: t) = c :: t := by rw [← h]; exact hs l false
    cases ho : oneL c t with
    | bad e => rw [scanT_bad N l c t e h ho, scanT_bad N (c :: t) c t e h2 ho]
    | tok k r => rw [scanT_tok N l c t k r h ho, scanT_tok N (c :: t) c t k r h2 ho]
theorem app_cons (xs : List (Tok × Nat)) (x : Tok × Nat) (s : Scan) : Scan.app xs (s.cons x) = Scan.app (xs ++ [x]) s := by
  cases s <;> simp [Scan.app, Scan.cons]
end Go.Proofs.YtminbdcabacfbaaGreatDoor.V

namespace Go.Proofs.YtminbdcabacfbaaGreatDoor.V
set_option linter.unusedVariables false
set_option linter.unusedSimpArgs false
open Go.RowKit

theorem tblank_calls (c : Int) (w : World) : Calls Tryz.prog 120 #[.int .u8 c] w fun e w' => e = .returned (.bool (blankI c)) ∧ w = w' := by
  unfold blankI
  cases h1 : (c == 9) <;> cases h2 : (c == 10) <;> cases h3 : (c == 13) <;> cases h4 : (c == 32) <;>
  · go_enter Tryz.func120, Tryz.ntmps120
    go_wp2
    go_ret
    exact ⟨by simp, rfl⟩
theorem tsmall_calls (c : Int) (w : World) : Calls Tryz.prog 126 #[.int .u8 c] w fun e w' => e = .returned (.bool (sml c)) ∧ w = w' := by
  unfold sml
  cases h1 : decide (97 ≤ c) <;> cases h2 : decide (c ≤ 122) <;>
  · go_enter Tryz.func126, Tryz.ntmps126
    go_wp2
    go_ret
    exact ⟨by simp, rfl⟩
theorem tbig_calls (c : Int) (w : World) : Calls Tryz.prog 128 #[.int .u8 c] w fun e w' => e = .returned (.bool (bgI c)) ∧ w = w' := by
  unfold bgI
  cases h1 : decide (65 ≤ c) <;> cases h2 : decide (c ≤ 90) <;>
  · go_enter Tryz.func128, Tryz.ntmps128
    go_wp2
    go_ret
    exact ⟨by simp, rfl⟩
theorem tfig_calls (c : Int) (w : World) : Calls Tryz.prog 124 #[.int .u8 c] w fun e w' => e = .returned (.bool (figI c)) ∧ w = w' := by
  unfold figI
  cases h1 : decide (48 ≤ c) <;> cases h2 : decide (c ≤ 57) <;>
  · go_enter Tryz.func124, Tryz.ntmps124
    go_wp2
    go_ret
    exact ⟨by simp, rfl⟩
theorem tword_calls (c : Int) (w : World) : Calls Tryz.prog 156 #[.int .u8 c] w fun e w' => e = .returned (.bool (wrdI c)) ∧ w = w' := by
  unfold wrdI
  cases h1 : sml c <;> cases h2 : bgI c <;> cases h3 : figI c <;> cases h4 : (c == 95) <;>
  · go_enter Tryz.func156, Tryz.ntmps156
    go_wp2_with (first
      | (go_at_call 126; with_reducible refine (tsmall_calls _ _).mono ?_; rintro e w' ⟨rfl, rfl⟩; rw [h1])
      | (go_at_call 128; with_reducible refine (tbig_calls _ _).mono ?_; rintro e w' ⟨rfl, rfl⟩; rw [h2])
      | (go_at_call 124; with_reducible refine (tfig_calls _ _).mono ?_; rintro e w' ⟨rfl, rfl⟩; rw [h3]))
    go_ret
    exact ⟨by simp, rfl⟩
theorem tgap_calls (c : Int) (w : World) : Calls Tryz.prog 119 #[.int .u8 c] w fun e w' => e = .returned (.bool (gapI c)) ∧ w = w' := by
  unfold gapI
  cases h1 : blankI c <;> cases h2 : (c == 37) <;>
  · go_enter Tryz.func119, Tryz.ntmps119
    go_wp2_with (go_at_call 120; with_reducible refine (tblank_calls _ _).mono ?_; rintro e w' ⟨rfl, rfl⟩; rw [h1])
    go_ret
    exact ⟨by simp, rfl⟩
theorem tline_calls (c : Int) (w : World) : Calls Tryz.prog 122 #[.int .u8 c] w fun e w' => e = .returned (.bool (lineI c)) ∧ w = w' := by
  unfold lineI
  cases h1 : (c == 10)
  all_goals
    go_enter Tryz.func122, Tryz.ntmps122
    go_wp2
    go_ret
    exact ⟨by simp_all, rfl⟩

/-- What is scanned, and where that stands. -/
def IsText (X : Nat) (s : ByteArray) (a : Nat) (w : World) : Prop := w.heap[X]? = some (.cells #[.string s, .int .i64 (a : Int)] 137 (0, 0))
theorem IsText.cell0 {X : Nat} {s : ByteArray} {a : Nat} {w : World} (h : IsText X s a w) : w.cell? ⟨X, 0, none⟩ = some (.string s) := cell_of_row w X 0 _ _ _ h
theorem IsText.cell1 {X : Nat} {s : ByteArray} {a : Nat} {w : World} (h : IsText X s a w) : w.cell? ⟨X, 1, none⟩ = some (.int .i64 (a : Int)) := cell_of_row w X 1 _ _ _ h
theorem IsText.free {X : Nat} {s : ByteArray} {a : Nat} {w : World} (h : IsText X s a w) (i : Nat) : w.frozen? ⟨X, i, none⟩ = false := by
  exact frozen_of_row w X i _ _ h
theorem IsText.lt {X : Nat} {s : ByteArray} {a : Nat} {w : World} (h : IsText X s a w) : X < w.heap.size := (Array.getElem?_eq_some_iff.1 h).1
theorem IsText.below {X B : Nat} {s : ByteArray} {a : Nat} {w w' : World} (h : IsText X s a w) (hb : Below B w w') (hX : X < B) : IsText X s a w' := (hb.block X hX).trans h
theorem IsText.drew {X : Nat} {s : ByteArray} {a : Nat} {w : World} (h : IsText X s a w) : IsText X s a w.drew := h
theorem IsText.set {X : Nat} {s : ByteArray} {a : Nat} {w : World} (h : IsText X s a w) (b : Nat) : IsText X s b (w.setCell ⟨X, 1, none⟩ (.int .i64 (b : Int))) := by
  have hl := h.lt
  unfold IsText at *
  simp only [World.setCell, Array.getElem?_modify, if_true]
  rw [h]
  rfl

/-- A block of a token's five cells. -/
def IsTok (T : Nat) (v0 v1 v2 v3 v4 : Value) (w : World) : Prop := w.heap[T]? = some (.cells #[v0, v1, v2, v3, v4] 71 (0, 0))
section
variable {T : Nat} {v0 v1 v2 v3 v4 : Value} {w : World}
theorem IsTok.c0 (h : IsTok T v0 v1 v2 v3 v4 w) : w.cell? ⟨T, 0, none⟩ = some v0 := cell_of_row w T 0 _ _ _ h
theorem IsTok.c1 (h : IsTok T v0 v1 v2 v3 v4 w) : w.cell? ⟨T, 1, none⟩ = some v1 := cell_of_row w T 1 _ _ _ h
theorem IsTok.c2 (h : IsTok T v0 v1 v2 v3 v4 w) : w.cell? ⟨T, 2, none⟩ = some v2 := cell_of_row w T 2 _ _ _ h
theorem IsTok.c3 (h : IsTok T v0 v1 v2 v3 v4 w) : w.cell? ⟨T, 3, none⟩ = some v3 := cell_of_row w T 3 _ _ _ h
theorem IsTok.c4 (h : IsTok T v0 v1 v2 v3 v4 w) : w.cell? ⟨T, 4, none⟩ = some v4 := cell_of_row w T 4 _ _ _ h
theorem IsTok.fr (h : IsTok T v0 v1 v2 v3 v4 w) (i : Nat) : w.frozen? ⟨T, i, none⟩ = false := frozen_of_row w T i _ _ h
theorem IsTok.new (w : World) : IsTok w.heap.size v0 v1 v2 v3 v4 (w.alloc (.cells #[v0, v1, v2, v3, v4] 71)) := heap_alloc_new w _
theorem IsTok.grown {w' : World} {row : Option Nat} (h : IsTok T v0 v1 v2 v3 v4 w) (hg : w.grownBy w' row) (hne : some T ≠ row) : IsTok T v0 v1 v2 v3 v4 w' := (hg.block T (Array.getElem?_eq_some_iff.1 h).1 hne).trans h
end

/-- A token is stored. -/
abbrev tokSet (T : Nat) (u0 u1 u2 u3 u4 : Value) (w : World) : World :=
  ((((w.setCell ⟨T, 0, none⟩ u0).setCell ⟨T, 1, none⟩ u1).setCell ⟨T, 2, none⟩ u2).setCell ⟨T, 3, none⟩ u3).setCell ⟨T, 4, none⟩ u4
theorem set_block {w : World} {b i : Nat} {cs : Array Value} {t : TypeId} (h : w.heap[b]? = some (.cells cs t (0, 0))) (u : Value) : (w.setCell ⟨b, i, none⟩ u).heap[b]? = some (.cells (cs.setIfInBounds i u) t (0, 0)) := by
  simp only [World.setCell, Array.getElem?_modify, if_true]
  rw [h]
  rfl
theorem IsTok.set {T : Nat} {v0 v1 v2 v3 v4 : Value} {w : World} (h : IsTok T v0 v1 v2 v3 v4 w) (u0 u1 u2 u3 u4 : Value) : IsTok T u0 u1 u2 u3 u4 (tokSet T u0 u1 u2 u3 u4 w) :=
  set_block (set_block (set_block (set_block (set_block h u0) u1) u2) u3) u4
theorem grown_setNew {w w' : World} {row : Option Nat} {T : Nat} (h : w.grownBy w' row) (hT : w.heap.size ≤ T) (i : Nat) (v : Value) : w.grownBy (w'.setCell ⟨T, i, none⟩ v) row :=
  ⟨h.os, h.tape, h.output, by simpa [World.setCell] using h.size, fun k hk hne => (Below.heap_setCell _ _ _ _ (by show k ≠ T; omega)).trans (h.block k hk hne)⟩
theorem grown_tokSet {w w' : World} {row : Option Nat} {T : Nat} (h : w.grownBy w' row) (hT : w.heap.size ≤ T) (u0 u1 u2 u3 u4 : Value) : w.grownBy (tokSet T u0 u1 u2 u3 u4 w') row :=
  grown_setNew (grown_setNew (grown_setNew (grown_setNew (grown_setNew h hT _ _) hT _ _) hT _ _) hT _ _) hT _ _
theorem IsText.far {X T : Nat} {s : ByteArray} {a : Nat} {w : World} (h : IsText X s a w) (hne : X ≠ T) (i : Nat) (v : Value) : IsText X s a (w.setCell ⟨T, i, none⟩ v) := (Below.heap_setCell _ _ _ _ hne).trans h
theorem IsText.tokSet {X T : Nat} {s : ByteArray} {a : Nat} {w : World} (h : IsText X s a w) (hne : X ≠ T) (u0 u1 u2 u3 u4 : Value) : IsText X s a (V.tokSet T u0 u1 u2 u3 u4 w) :=
  ((((h.far hne _ _).far hne _ _).far hne _ _).far hne _ _).far hne _ _
/-- Where the scanned text stands. -/
def textAt (X : Nat) (w : World) : Nat := match w.cell? ⟨X, 1, none⟩ with
  | some v => (intOf v).toNat
  | none => 0
theorem IsText.textAt {X : Nat} {s : ByteArray} {a : Nat} {w : World} (h : IsText X s a w) : textAt X w = a := by
  unfold V.textAt
  rw [h.cell1]
  simp [intOf]
theorem IsText.grown {X : Nat} {s : ByteArray} {a : Nat} {w w' : World} {row : Option Nat} (h : IsText X s a w) (hg : w.grownBy w' row) (hne : some X ≠ row) : IsText X s a w' := (hg.block X h.lt hne).trans h
theorem grown_drew {w w' : World} {row : Option Nat} (h : w.grownBy w' row) : w.grownBy w'.drew row := ⟨h.os, h.tape, h.output, h.size, h.block⟩
theorem un_drew {w w' : World} {row : Option Nat} (h : w.drew.grownBy w' row) : w.grownBy w' row := ⟨h.os, h.tape, h.output, h.size, h.block⟩
theorem grown_set {w w' : World} {X : Nat} (h : w.grownBy w' (some X)) (i : Nat) (v : Value) : w.grownBy (w'.setCell ⟨X, i, none⟩ v) (some X) :=
  ⟨h.os, h.tape, h.output, by simpa [World.setCell] using h.size, fun k hk hne => (Below.heap_setCell _ _ _ _ (fun e => hne (by rw [e]))).trans (h.block k hk hne)⟩
theorem grown_trans {a b c : World} {row : Option Nat} (h : a.grownBy b row) (k : b.grownBy c row) : a.grownBy c row :=
  ⟨k.os.trans h.os, k.tape.trans h.tape, k.output.trans h.output, Nat.le_trans h.size k.size, fun i hi hne => (k.block i (Nat.lt_of_lt_of_le hi h.size) hne).trans (h.block i hi hne)⟩
theorem grown_below {w w' : World} (h : Below w.heap.size w w') (row : Option Nat) : w.grownBy w' row := ⟨h.os, h.tape, h.output, h.size, fun k hk _ => h.block k hk⟩

/-- Does it hold of the byte at a place? -/
def moreB (P : Int → Bool) (s : ByteArray) (a : Nat) : Bool := if h : a < s.size then ofB P (s[a]'h) else false

set_option maxRecDepth 100000 in
theorem more_calls {F : Nat} {P : Int → Bool} (eF : ∀ args w, (callFunc F args).run Tryz.prog w = .ok (.enter F args) w)
    (hF : ∀ (c : Int) (w : World), Calls Tryz.prog F #[.int .u8 c] w fun e w' => e = .returned (.bool (P c)) ∧ w = w')
    (X : Nat) (s : ByteArray) (a : Nat) (w : World) (hT : IsText X s a w) :
    Calls Tryz.prog 118 #[.pointer (some ⟨X, 0, none⟩), .func (.func F) #[] #[]] w fun e w' => e = .returned (.bool (moreB P s a)) ∧ w.drew = w' := by
  have c0 := hT.cell0
  have c1 := hT.cell1
  have C0 := Lib.hid c0
  have C1 := Lib.hid c1
  by_cases hlt : a < s.size
  · have hd : decide ((a : Int) < (s.size : Int)) = true := decide_eq_true (by omega)
    have HM := Lib.hid (show moreB P s a = P ((s[a]'hlt).toNat : Int) by unfold moreB; rw [dif_pos hlt]; rfl)
    go_enter Tryz.func118, Tryz.ntmps118
    go_wp2
    go_region_held3 (fun W => W.cell? ⟨X, 0, none⟩ = some (.string s) ∧ W.cell? ⟨X, 1, none⟩ = some (.int .i64 (a : Int)))
      ((go_split_ands; refine ⟨?_, ?_⟩; (focus (first | with_reducible assumption | (refine cell_below (w := w) ?_ C0.out; (focus (repeat (first | with_reducible assumption | with_reducible exact Below.refl _ _ | with_reducible apply Below.drew)))))); (focus (first | with_reducible assumption | (refine cell_below (w := w) ?_ C1.out; (focus (repeat (first | with_reducible assumption | with_reducible exact Below.refl _ _ | with_reducible apply Below.drew))))))))
      (first
        | (go_at_fn F; refine (hF _ _).mono ?_; rintro e w' ⟨rfl, rfl⟩))
    go_wp2
    go_ret
    exact ⟨by rw [HM.out]; rfl, rfl⟩
  · have hd : decide ((a : Int) < (s.size : Int)) = false := decide_eq_false (by omega)
    have HM := Lib.hid (show moreB P s a = false by unfold moreB; rw [dif_neg hlt])
    go_enter Tryz.func118, Tryz.ntmps118
    go_wp2
    go_region
    go_wp2
    go_ret
    exact ⟨by rw [HM.out]; rfl, rfl⟩

/-- Behind all bytes of which it holds. -/
def runB (P : Int → Bool) (s : ByteArray) (a : Nat) : Nat := a + ((s.data.toList.drop a).takeWhile (ofB P)).length
theorem drop_at {s : ByteArray} {a : Nat} (h : a < s.size) : s.data.toList.drop a = s[a] :: s.data.toList.drop (a + 1) := by
  rw [List.drop_eq_getElem_cons (by simpa using h)]
  simp [ByteArray.getElem_eq_getElem_data]
theorem drop_end {s : ByteArray} {a : Nat} (h : s.size ≤ a) : s.data.toList.drop a = [] := List.drop_eq_nil_of_le (by simpa using h)
theorem runB_more {P : Int → Bool} {s : ByteArray} {a : Nat} (h : moreB P s a = true) : a < s.size ∧ runB P s (a + 1) = runB P s a := by
  unfold moreB at h
  split at h
  · rename_i hlt
    refine ⟨hlt, ?_⟩
    unfold runB
    rw [drop_at hlt, List.takeWhile_cons_of_pos h]
    simp
    omega
  · cases h
theorem runB_stop {P : Int → Bool} {s : ByteArray} {a : Nat} (h : moreB P s a = false) : runB P s a = a := by
  unfold moreB at h
  split at h
  · rename_i hlt
    unfold runB
    rw [drop_at hlt, List.takeWhile_cons_of_neg (by simp [h])]
    rfl
  · rename_i hlt
    unfold runB
    rw [drop_end (by omega)]
    rfl
theorem runB_le {P : Int → Bool} {s : ByteArray} {a : Nat} (h : a ≤ s.size) : a ≤ runB P s a ∧ runB P s a ≤ s.size := by
  have h1 := (List.takeWhile_prefix (ofB P) (l := s.data.toList.drop a)).length_le
  have h2 : (s.data.toList.drop a).length = s.size - a := by simp
  unfold runB
  omega
theorem runB_drop (P : Int → Bool) (s : ByteArray) (a : Nat) : s.data.toList.drop (runB P s a) = (s.data.toList.drop a).dropWhile (ofB P) := by
  unfold runB
  rw [← List.drop_drop]
  generalize s.data.toList.drop a = l
  conv => lhs; rw [← List.takeWhile_append_dropWhile (p := ofB P) (l := l)]
  rw [List.drop_left']
  simp [List.takeWhile_append_dropWhile]
theorem runB_take (P : Int → Bool) (s : ByteArray) (a : Nat) : (s.extract a (runB P s a)).data.toList = (s.data.toList.drop a).takeWhile (ofB P) := by
  unfold runB
  simp only [ByteArray.data_extract, Array.toList_extract, List.extract]
  rw [show a + ((s.data.toList.drop a).takeWhile (ofB P)).length - a = ((s.data.toList.drop a).takeWhile (ofB P)).length by omega]
  generalize s.data.toList.drop a = l
  conv => lhs; rw [← List.takeWhile_append_dropWhile (p := ofB P) (l := l)]
  rw [List.take_left']
  simp [List.takeWhile_append_dropWhile]

set_option maxRecDepth 100000 in
theorem run_calls {F : Nat} {P : Int → Bool} (eF : ∀ args w, (callFunc F args).run Tryz.prog w = .ok (.enter F args) w)
    (hF : ∀ (c : Int) (w : World), Calls Tryz.prog F #[.int .u8 c] w fun e w' => e = .returned (.bool (P c)) ∧ w = w')
    (X : Nat) (s : ByteArray) (a : Nat) (w : World) (hT : IsText X s a w) (ha : a ≤ s.size) (hs : s.size ≤ 65536) :
    Calls Tryz.prog 121 #[.pointer (some ⟨X, 0, none⟩), .func (.func F) #[] #[]] w fun e w' =>
      e = .returned (.string (s.extract a (runB P s a))) ∧ IsText X s (runB P s a) w' ∧ w.grownBy w' (some X) := by
  have c1 := hT.cell1
  go_enter Tryz.func121, Tryz.ntmps121
  go_wp2_with fail
  clear c1
  go_loopw [] (fun wr => ∃ k : Nat, k ≤ s.size ∧ a ≤ k ∧ runB P s k = runB P s a ∧ IsText X s k wr ∧ w.grownBy wr (some X)) (fun wr => s.size - textAt X wr)
  case atStart => exact ⟨a, ha, Nat.le_refl _, rfl, hT, World.grownBy.refl _ _⟩
  case round =>
    obtain ⟨k, hk, hak, hr, ht, hg⟩ := hrel
    have HG := Lib.hid hg
    have HR := Lib.hid hr
    have HT := Lib.hid ht
    have c1 := ht.cell1
    have c0 := ht.cell0
    have C0 := Lib.hid c0
    have C1 := Lib.hid c1
    have f1 := ht.free 1
    clear hg hr ht hT
    cases hm : moreB P s k with
    | true =>
      have h1 := runB_more hm
      have hkl := h1.1
      have HH := Lib.hid h1.2
      clear h1
      have HM := Lib.hid hm
      clear hm
      go_wp2_with (go_at_call 118; refine (more_calls eF hF X s k _ HT.out).mono ?_; rintro e w' ⟨rfl, rfl⟩; rw [HM.out])
      go_roundw
      case rel => exact ⟨k + 1, hkl, by omega, by rw [HH.out, HR.out], HT.out.drew.set (k + 1), grown_set (grown_drew HG.out) _ _⟩
      case measure => exact Nat.lt_of_le_of_lt (Nat.le_of_eq (congrArg (s.size - ·) (HT.out.set (k + 1)).drew.textAt)) (by rw [HT.out.textAt]; omega)
    | false =>
      have HE := Lib.hid (runB_stop hm)
      have HM := Lib.hid hm
      clear hm
      go_wp2_with (go_at_call 118; refine (more_calls eF hF X s k _ HT.out).mono ?_; rintro e w' ⟨rfl, rfl⟩; rw [HM.out])
      go_region
      go_wp2
      go_ret
      exact ⟨by rw [← HR.out, HE.out]; rfl, by rw [← HR.out, HE.out]; exact HT.out.drew, grown_drew (grown_drew HG.out)⟩
end Go.Proofs.YtminbdcabacfbaaGreatDoor.V

namespace Go.Proofs.YtminbdcabacfbaaGreatDoor.V
set_option linter.unusedVariables false
set_option linter.unusedSimpArgs false
open Go.RowKit

theorem skipR_line (l : List UInt8) : skipR true l = skipR false (l.dropWhile (ofB lineI)) := by
  induction l with
  | nil => rfl
  | cons c t ih =>
    by_cases h : c = 10
    · subst h
      rw [List.dropWhile_cons_of_neg (by decide)]
      rfl
    · have h10 : (c == 10) = false := by simpa using h
      rw [List.dropWhile_cons_of_pos (by simp [ofB, lineI]; intro hc; exact h (by apply UInt8.toNat_inj.1; simpa using (by omega : c.toNat = 10))), ← ih]
      simp [skipR, h10]
theorem skipR_blank (l : List UInt8) : skipR false l = skipR false (l.dropWhile (ofB blankI)) := by
  induction l with
  | nil => rfl
  | cons c t ih =>
    cases h : ofB blankI c with
    | true =>
      rw [List.dropWhile_cons_of_pos h, ← ih]
      have h37 : (c == 37) = false := by
        cases hc : (c == 37) with
        | false => rfl
        | true =>
          rw [beq_iff_eq.1 hc] at h
          simp [ofB, blankI] at h
      rw [skipR, if_neg (by simp [h])]
      simp [h37]
    | false => rw [List.dropWhile_cons_of_neg (by simp [h])]
theorem skipR_mark (t : List UInt8) : skipR false (37 :: t) = skipR true (37 :: t) := by
  simp [skipR]
theorem skipR_stay {c : UInt8} {t : List UInt8} (h : ofB gapI c = false) : skipR false (c :: t) = c :: t := by
  rw [skipR, if_pos]
  unfold ofB gapI at h
  rw [Bool.or_eq_false_iff] at h
  have h2 : (c == 37) = false := by
    cases hc : (c == 37) with
    | false => rfl
    | true =>
      rw [beq_iff_eq.1 hc] at h
      simp at h
  have h3 : ofB blankI c = false := h.1
  simp [h2, h3]
theorem ofB_at {P : Int → Bool} {s : ByteArray} {k : Nat} (h : moreB P s k = true) (hk : k < s.size) : ofB P s[k] = true := by
  unfold moreB at h
  rw [dif_pos hk] at h
  exact h
theorem ofB_no {P : Int → Bool} {s : ByteArray} {k : Nat} (h : moreB P s k = false) (hk : k < s.size) : ofB P s[k] = false := by
  unfold moreB at h
  rw [dif_pos hk] at h
  exact h
theorem byte37 {c : UInt8} (h : ((c.toNat : Int) == 37) = true) : c = 37 := by
  apply UInt8.toNat_inj.1
  have : (c.toNat : Int) = 37 := by simpa using h
  show c.toNat = 37
  omega

theorem en_gap : ∀ args w, (callFunc 119 args).run Tryz.prog w = .ok (.enter 119 args) w := enters_of Tryz.func119 (by kernel_rfl) rfl
theorem en_line : ∀ args w, (callFunc 122 args).run Tryz.prog w = .ok (.enter 122 args) w := enters_of Tryz.func122 (by kernel_rfl) rfl
theorem en_blank : ∀ args w, (callFunc 120 args).run Tryz.prog w = .ok (.enter 120 args) w := enters_of Tryz.func120 (by kernel_rfl) rfl
theorem en_word : ∀ args w, (callFunc 156 args).run Tryz.prog w = .ok (.enter 156 args) w := enters_of Tryz.func156 (by kernel_rfl) rfl
theorem en_fig : ∀ args w, (callFunc 124 args).run Tryz.prog w = .ok (.enter 124 args) w := enters_of Tryz.func124 (by kernel_rfl) rfl
theorem en_small : ∀ args w, (callFunc 126 args).run Tryz.prog w = .ok (.enter 126 args) w := enters_of Tryz.func126 (by kernel_rfl) rfl
theorem en_big : ∀ args w, (callFunc 128 args).run Tryz.prog w = .ok (.enter 128 args) w := enters_of Tryz.func128 (by kernel_rfl) rfl

set_option maxRecDepth 100000 in
theorem skip_calls (X : Nat) (s : ByteArray) (a : Nat) (w : World) (hT : IsText X s a w) (ha : a ≤ s.size) (hs : s.size ≤ 65536) :
    Calls Tryz.prog 92 #[.pointer (some ⟨X, 0, none⟩)] w fun e w' =>
      e = .returned (.tuple #[]) ∧ ∃ b, a ≤ b ∧ b ≤ s.size ∧ s.data.toList.drop b = skipR false (s.data.toList.drop a) ∧ IsText X s b w' ∧ w.grownBy w' (some X) := by
  go_enter Tryz.func92, Tryz.ntmps92
  go_wp2_with fail
  go_loopw [] (fun wr => ∃ k : Nat, k ≤ s.size ∧ a ≤ k ∧ skipR false (s.data.toList.drop k) = skipR false (s.data.toList.drop a) ∧ IsText X s k wr ∧ w.grownBy wr (some X)) (fun wr => s.size - textAt X wr)
  case atStart => exact ⟨a, ha, Nat.le_refl _, rfl, hT, World.grownBy.refl _ _⟩
  case round =>
    obtain ⟨k, hk, hak, hr, ht, hg⟩ := hrel
    have HG := Lib.hid hg
    have HR := Lib.hid hr
    have HT := Lib.hid ht
    have c1 := ht.cell1
    have c0 := ht.cell0
    clear hg hr ht hT
    cases hm : moreB gapI s k with
    | true =>
      have hkl := (runB_more hm).1
      have HM := Lib.hid hm
      clear hm
      have hal := runB_le (P := lineI) hk
      have HA := Lib.hid hal
      have HAB := Lib.hid (runB_le (P := blankI) hal.2)
      have HK := Lib.hid (runB_le (P := blankI) hk)
      clear hal
      cases h37 : (((s[k]'hkl).toNat : Int) == 37) with
      | true =>
        have HE := Lib.hid (byte37 h37)
        have HP := Lib.hid (show k + 1 ≤ runB lineI s k by
          have h1 : moreB lineI s k = true := by unfold moreB; rw [dif_pos hkl, byte37 h37]; rfl
          have := runB_le (P := lineI) (s := s) (a := k + 1) hkl
          rw [(runB_more h1).2] at this
          exact this.1)
        have HQ := Lib.hid (show skipR false (s.data.toList.drop (runB blankI s (runB lineI s k))) = skipR false (s.data.toList.drop k) by
          rw [runB_drop, ← skipR_blank, runB_drop, ← skipR_line, drop_at hkl, byte37 h37, skipR_mark])
        go_wp2_with (first
          | (go_at_call 118; refine (more_calls en_gap tgap_calls X s k _ HT.out).mono ?_; rintro e w' ⟨rfl, rfl⟩; rw [HM.out]))
        go_region
        go_wp2_with (first
          | (go_at_call 121; ((with_reducible refine (run_calls en_line tline_calls X s k _ ?_ hk hs).mono ?_); (focus (exact HT.out)); rintro e w1 ⟨rfl, ht1, hg1⟩; have HT1 := Lib.hid ht1; have HG1 := Lib.hid hg1; clear ht1 hg1))
          | (go_at_call 121; (with_reducible refine (run_calls en_blank tblank_calls X s (runB lineI s k) _ HT1.out HA.out.2 hs).mono ?_); rintro e w2 ⟨rfl, ht2, hg2⟩; have HT2 := Lib.hid ht2; have HG2 := Lib.hid hg2; clear ht2 hg2))
        go_roundw
        case rel => exact ⟨runB blankI s (runB lineI s k), HAB.out.2, Nat.le_trans hak (Nat.le_trans HA.out.1 HAB.out.1), by rw [HQ.out, HR.out], HT2.out, grown_trans HG.out (grown_trans (un_drew (un_drew HG1.out)) HG2.out)⟩
        case measure =>
          have h1 := HP.out
          have h2 := HAB.out
          rw [HT2.out.textAt, HT.out.textAt]
          omega
      | false =>
        have HP := Lib.hid (show k + 1 ≤ runB blankI s k by
          have h0 := ofB_at HM.out hkl
          have h1 : moreB blankI s k = true := by
            unfold moreB; rw [dif_pos hkl]
            unfold ofB gapI at h0
            rw [h37, Bool.or_false] at h0
            exact h0
          have := runB_le (P := blankI) (s := s) (a := k + 1) hkl
          rw [(runB_more h1).2] at this
          exact this.1)
        have HQ := Lib.hid (show skipR false (s.data.toList.drop (runB blankI s k)) = skipR false (s.data.toList.drop k) by
          rw [runB_drop, ← skipR_blank])
        go_wp2_with (first
          | (go_at_call 118; refine (more_calls en_gap tgap_calls X s k _ HT.out).mono ?_; rintro e w' ⟨rfl, rfl⟩; rw [HM.out]))
        go_region
        go_wp2_with (first
          | (go_at_call 121; ((with_reducible refine (run_calls en_blank tblank_calls X s k _ ?_ hk hs).mono ?_); (focus (exact HT.out)); rintro e w1 ⟨rfl, ht1, hg1⟩; have HT1 := Lib.hid ht1; have HG1 := Lib.hid hg1; clear ht1 hg1)))
        go_roundw
        case rel => exact ⟨runB blankI s k, HK.out.2, Nat.le_trans hak HK.out.1, by rw [HQ.out, HR.out], HT1.out, grown_trans HG.out (un_drew (un_drew HG1.out))⟩
        case measure =>
          have h1 := HP.out
          have h2 := HK.out
          rw [HT1.out.textAt, HT.out.textAt]
          omega
    | false =>
      have HM := Lib.hid hm
      have HQ := Lib.hid (show s.data.toList.drop k = skipR false (s.data.toList.drop k) by
        by_cases hkl : k < s.size
        · rw [drop_at hkl, skipR_stay (ofB_no hm hkl)]
        · rw [drop_end (by omega)]; rfl)
      clear hm
      go_wp2_with (first
        | (go_at_call 118; refine (more_calls en_gap tgap_calls X s k _ HT.out).mono ?_; rintro e w' ⟨rfl, rfl⟩; rw [HM.out]))
      go_end0
      exact ⟨rfl, k, hak, hk, by rw [← HR.out]; exact HQ.out, HT.out.drew, grown_drew HG.out⟩

/-- A token as it lies in a slot. -/
def tokV (t : Tok) (a : Int) : Value := .agg #[.int .i64 (t.k : Int), .string ⟨t.s.toArray⟩, .int .i64 t.n, .bool t.q, .int .i64 a]
def tok0 : Tok := ⟨0, [], 0, false⟩
/-- What a scanner of one token hands back: a token, and what is left of the text; or an error. -/
def OneIs (X : Nat) (s : ByteArray) (g : Got) (w : World) (e : Ending) (w' : World) : Prop :=
  w.grownBy w' (some X) ∧ match g with
    | .bad n => e = .returned (.tuple #[tokV tok0 0, .int .i64 (n : Int)]) ∧ ∃ b, IsText X s b w'
    | .tok t r => e = .returned (.tuple #[tokV t 0, .int .i64 0]) ∧ ∃ b, b ≤ s.size ∧ s.data.toList.drop b = r ∧ IsText X s b w'

set_option maxRecDepth 100000 in
theorem named_calls (kind : Nat) (X : Nat) (s : ByteArray) (a : Nat) (w : World) (hT : IsText X s a w) (ha : a ≤ s.size) (hs : s.size ≤ 65536) :
    Calls Tryz.prog 127 #[.pointer (some ⟨X, 0, none⟩), .int .i64 (kind : Int)] w (OneIs X s (namedL kind (s.data.toList.drop a)) w) := by
  have hle := runB_le (P := wrdI) ha
  have hrt := runB_take wrdI s a
  have hrd := runB_drop wrdI s a
  have hes : (s.extract a (runB wrdI s a)).size = ((s.data.toList.drop a).takeWhile (ofB wrdI)).length := by
    rw [← hrt]; exact (Array.length_toList).symm
  have hT2 : IsText X s a (w.alloc (.cells #[.int .i64 0, .string ⟨#[]⟩, .int .i64 0, .bool false, .int .i64 0] 71)) := hT.grown (World.grownBy_alloc _ _ none) (by simp)
  have HT := Lib.hid hT2
  have HLT := Lib.hid hT.lt
  have HRD := Lib.hid hrd
  have HLE := Lib.hid hle
  have HN := Lib.hid (show s.extract a (runB wrdI s a) = ⟨((s.data.toList.drop a).takeWhile (ofB wrdI)).toArray⟩ by
    apply ByteArray.ext
    rw [← hrt])
  clear hT hT2 hrd hle
  obtain ⟨E, hE⟩ : ∃ E, s.extract a (runB wrdI s a) = E := ⟨_, rfl⟩
  rw [hE] at hes
  have HE := Lib.hid hE
  clear hrt hE
  by_cases h : 32 < ((s.data.toList.drop a).takeWhile (ofB wrdI)).length
  · have HG := Lib.hid (show namedL kind (s.data.toList.drop a) = .bad 4 from if_pos h)
    have hd : decide (32 < (E.size : Int)) = true := decide_eq_true (by omega)
    clear hes h
    go_enter Tryz.func127, Tryz.ntmps127
    go_wp2_with (go_at_call 121; ((with_reducible refine (run_calls en_word tword_calls X s a _ HT.out ha hs).mono ?_); rintro e w1 ⟨rfl, ht1, hg1⟩; rw [HE.out]; have HT1 := Lib.hid ht1; have HG1 := Lib.hid hg1; have hb1 := (IsTok.new w).grown hg1 (by have := HLT.out; simp; omega); have k0 := hb1.c0; have k1 := hb1.c1; have k2 := hb1.c2; have k3 := hb1.c3; have k4 := hb1.c4; have l0 := hb1.fr 0; have l1 := hb1.fr 1; have l2 := hb1.fr 2; have l3 := hb1.fr 3; have l4 := hb1.fr 4; have HB1 := Lib.hid hb1; clear hb1 ht1 hg1))
    have hres := HB1.out.set (.int .i64 0) (.string ⟨#[]⟩) (.int .i64 0) (.bool false) (.int .i64 0)
    have HX := HLT.out
    have r0 := hres.c0; have r1 := hres.c1; have r2 := hres.c2; have r3 := hres.c3; have r4 := hres.c4
    refine bodyPost_ret (v := .tuple #[tokV tok0 0, .int .i64 4]) (by simp [results, Tryz.results127, go_sem, r0, r1, r2, r3, r4]; rfl) rfl ⟨grown_tokSet (grown_trans (World.grownBy_alloc _ _ _) HG1.out) (Nat.le_refl _) _ _ _ _ _, ?_⟩
    rw [HG.out]
    exact ⟨rfl, _, HT1.out.tokSet (by omega) _ _ _ _ _⟩
  · have HG := Lib.hid (show namedL kind (s.data.toList.drop a) = .tok ⟨kind, (s.data.toList.drop a).takeWhile (ofB wrdI), 0, false⟩ ((s.data.toList.drop a).dropWhile (ofB wrdI)) from if_neg h)
    have hd : decide (32 < (E.size : Int)) = false := decide_eq_false (by omega)
    clear hes h
    go_enter Tryz.func127, Tryz.ntmps127
    go_wp2_with (go_at_call 121; ((with_reducible refine (run_calls en_word tword_calls X s a _ HT.out ha hs).mono ?_); rintro e w1 ⟨rfl, ht1, hg1⟩; rw [HE.out]; have HT1 := Lib.hid ht1; have HG1 := Lib.hid hg1; have hb1 := (IsTok.new w).grown hg1 (by have := HLT.out; simp; omega); have k0 := hb1.c0; have k1 := hb1.c1; have k2 := hb1.c2; have k3 := hb1.c3; have k4 := hb1.c4; have l0 := hb1.fr 0; have l1 := hb1.fr 1; have l2 := hb1.fr 2; have l3 := hb1.fr 3; have l4 := hb1.fr 4; have HB1 := Lib.hid hb1; clear hb1 ht1 hg1))
    have hres := HB1.out.set (.int .i64 (kind : Int)) (.string E) (.int .i64 0) (.bool false) (.int .i64 0)
    have HX := HLT.out
    have r0 := hres.c0; have r1 := hres.c1; have r2 := hres.c2; have r3 := hres.c3; have r4 := hres.c4
    refine bodyPost_ret (v := .tuple #[.agg #[.int .i64 (kind : Int), .string E, .int .i64 0, .bool false, .int .i64 0], .int .i64 0]) (by simp [results, Tryz.results127, go_sem, r0, r1, r2, r3, r4]) rfl ⟨grown_tokSet (grown_trans (World.grownBy_alloc _ _ _) HG1.out) (Nat.le_refl _) _ _ _ _ _, ?_⟩
    rw [HG.out]
    refine ⟨?_, _, HLE.out.2, HRD.out, HT1.out.tokSet (by omega) _ _ _ _ _⟩
    rw [← HE.out, HN.out]
    rfl
end Go.Proofs.YtminbdcabacfbaaGreatDoor.V

namespace Go.Proofs
open Go.Shelf
def Tryz.lays169_ren : Go.Shelf.Ren := ⟨fun | 169 => 42 | n => n, fun | 70 => 81 | 9 => 9 | 0 => 0 | 72 => 84 | 37 => 82 | 127 => 126 | 3 => 3 | 5 => 5 | n => n, fun | n => n⟩
theorem Tryz.lays169 : Go.Proofs.Lays.n169 Tryz.prog Tryz.lays169_ren := {
  mixed := by kernel_rfl
  f169 := Tryz.func42.trans (congrArg some (by kernel_rfl))
  t0 := Tryz.underlying0
  a0 := Tryz.isAgg0
  z0 := Tryz.sizeOf0
  v0 := Tryz.zeroValue0
  t3 := Tryz.underlying3
  a3 := Tryz.isAgg3
  z3 := Tryz.sizeOf3
  v3 := Tryz.zeroValue3
  t9 := Tryz.underlying9
  a9 := Tryz.isAgg9
  z9 := Tryz.sizeOf9
  v9 := Tryz.zeroValue9
  t37 := Tryz.underlying82
  a37 := Tryz.isAgg82
  z37 := Tryz.sizeOf82
  v37 := Tryz.zeroValue82
  t70 := Tryz.underlying81
  a70 := Tryz.isAgg81
  z70 := Tryz.sizeOf81
  v70 := Tryz.zeroValue81
  t72 := Tryz.underlying84
  a72 := Tryz.isAgg84
  z72 := Tryz.sizeOf84
  v72 := Tryz.zeroValue84
  t127 := Tryz.underlying126
  a127 := Tryz.isAgg126
  z127 := Tryz.sizeOf126
  v127 := Tryz.zeroValue126 }
theorem Tryz.Builder_Extra_169 : Builder.Extra Tryz.prog Tryz.lays169_ren := {
  sizeBuilder := by kernel_rfl
  liesBuilder := by kernel_rfl
  t5 := Tryz.underlying5
  a5 := Tryz.isAgg5
  z5 := Tryz.sizeOf5
  v5 := Tryz.zeroValue5
  infoByte := by kernel_rfl
  cellsByte := by kernel_rfl
  sizeByte := by kernel_rfl
  neB5 := by decide }
def Tryz.lays165_ren : Go.Shelf.Ren := ⟨fun | 165 => 104 | 240 => 73 | 241 => 131 | 276 => 103 | 277 => 158 | n => n, fun | 70 => 81 | 3 => 3 | 0 => 0 | 4 => 4 | 9 => 9 | 20 => 20 | 72 => 84 | 37 => 82 | 164 => 143 | 5 => 5 | n => n, fun | n => n⟩
theorem Tryz.lays165 : Go.Proofs.Lays.n165 Tryz.prog Tryz.lays165_ren := {
  mixed := by kernel_rfl
  f165 := Tryz.func104.trans (congrArg some (by kernel_rfl))
  f240 := Tryz.func73.trans (congrArg some (by kernel_rfl))
  f241 := Tryz.func131.trans (congrArg some (by kernel_rfl))
  f276 := Tryz.func103.trans (congrArg some (by kernel_rfl))
  f277 := Tryz.func158.trans (congrArg some (by kernel_rfl))
  t0 := Tryz.underlying0
  a0 := Tryz.isAgg0
  z0 := Tryz.sizeOf0
  v0 := Tryz.zeroValue0
  t3 := Tryz.underlying3
  a3 := Tryz.isAgg3
  z3 := Tryz.sizeOf3
  v3 := Tryz.zeroValue3
  t4 := Tryz.underlying4
  a4 := Tryz.isAgg4
  z4 := Tryz.sizeOf4
  v4 := Tryz.zeroValue4
  t9 := Tryz.underlying9
  a9 := Tryz.isAgg9
  z9 := Tryz.sizeOf9
  v9 := Tryz.zeroValue9
  t20 := Tryz.underlying20
  a20 := Tryz.isAgg20
  z20 := Tryz.sizeOf20
  v20 := Tryz.zeroValue20
  t37 := Tryz.underlying82
  a37 := Tryz.isAgg82
  z37 := Tryz.sizeOf82
  v37 := Tryz.zeroValue82
  t70 := Tryz.underlying81
  a70 := Tryz.isAgg81
  z70 := Tryz.sizeOf81
  v70 := Tryz.zeroValue81
  t72 := Tryz.underlying84
  a72 := Tryz.isAgg84
  z72 := Tryz.sizeOf84
  v72 := Tryz.zeroValue84
  t164 := Tryz.underlying143
  a164 := Tryz.isAgg143
  z164 := Tryz.sizeOf143
  v164 := Tryz.zeroValue143 }
theorem Tryz.Builder_Extra_165 : Builder.Extra Tryz.prog Tryz.lays165_ren := {
  sizeBuilder := by kernel_rfl
  liesBuilder := by kernel_rfl
  t5 := Tryz.underlying5
  a5 := Tryz.isAgg5
  z5 := Tryz.sizeOf5
  v5 := Tryz.zeroValue5
  infoByte := by kernel_rfl
  cellsByte := by kernel_rfl
  sizeByte := by kernel_rfl
  neB5 := by decide }
open Go.RowKit in
/-- (*strings.Builder).Grow AT A BUILDER THAT HAS NOT BEEN WRITTEN ('var b strings.Builder; b.Grow(n)'): "Grow grows b's capacity, if necessary, to guarantee space for another n bytes.": it holds no byte behind it as before it. (LAID: no walk: one application.) -/
theorem Tryz.Builder_Grow_fresh (B b n : Nat) (w : World) (hB : B ≤ b) (hbk : w.heap[b]? = some (.cells #[.pointer none, .slice none 0 0] 84 (0, 0))) (hBw : B ≤ w.heap.size) (hn : n ≤ 281474976710656) :
    Calls Tryz.prog 104 #[.pointer (some ⟨b, 0, none⟩), .int .i64 n] w fun e w' => e = .returned (.tuple #[]) ∧ (Lib.BuilderAt 84 5 B b (.pointer (some ⟨b, 0, none⟩)) [] w' ∧ Below B w w') := Any.Builder_Grow_fresh Tryz.lays165 Tryz.Builder_Extra_165 B b n w hB hbk hBw hn
def Tryz.lays137_ren : Go.Shelf.Ren := ⟨fun | 137 => 155 | 217 => 175 | 266 => 188 | n => n, fun | 9 => 9 | 5 => 5 | 3 => 3 | n => n, fun | n => n⟩
theorem Tryz.lays137 : Go.Proofs.Lays.n137 Tryz.prog Tryz.lays137_ren := {
  mixed := by kernel_rfl
  f137 := Tryz.func155.trans (congrArg some (by kernel_rfl))
  f217 := Tryz.func175.trans (congrArg some (by kernel_rfl))
  f266 := Tryz.func188.trans (congrArg some (by kernel_rfl))
  t3 := Tryz.underlying3
  a3 := Tryz.isAgg3
  z3 := Tryz.sizeOf3
  v3 := Tryz.zeroValue3
  t5 := Tryz.underlying5
  a5 := Tryz.isAgg5
  z5 := Tryz.sizeOf5
  v5 := Tryz.zeroValue5
  t9 := Tryz.underlying9
  a9 := Tryz.isAgg9
  z9 := Tryz.sizeOf9
  v9 := Tryz.zeroValue9 }
open Go.RowKit in
/-- strings.IndexByte: "IndexByte returns the index of the first instance of c in s, or -1 if c is not present in s.": IT RETURNS 'Lib.indexByte s c'; the world is as it was. (LAID: no walk: one application.) -/
theorem Tryz.strings_IndexByte (s : ByteArray) (c : Int) (w : World) :
    Calls Tryz.prog 155 #[.string s, .int .u8 c] w fun e w' => e = .returned (.int .i64 (Lib.indexByte s.data.toList c.toNat.toUInt8)) ∧ w' = w := Any.strings_IndexByte Tryz.lays137 s c w
open Go.RowKit in
/-- (*strings.Builder).String: "String returns the accumulated string.": WHATEVER THE BUILDER HOLDS; THE FORM '_k': OVER 'Lib.IsBuilderF' (a builder that 'String()' may have read), AND WITH THE FRAME THAT REACHES ABOVE THE BUILDER: 'Lib.OthersKept': every block that is not b and is no row of uint8's stands as it stood: the iterator of a range among them. (LAID: no walk: one application.) -/
theorem Tryz.Builder_String_any_k (B b : Nat) (l : List UInt8) (w : World) (h : Lib.IsBuilderF 84 5 B b (Lib.byteCells l) w) (hBw : B ≤ w.heap.size) :
    Calls Tryz.prog 42 #[.pointer (some ⟨b, 0, none⟩)] w fun e w' => e = .returned (.string ⟨l.toArray⟩) ∧ (Lib.IsBuilderF 84 5 B b (Lib.byteCells l) w' ∧ Below B w w' ∧ Lib.OthersKept 5 (some b) w w') := Any.Builder_String_any_k Tryz.lays169 Tryz.Builder_Extra_169 B b l w h hBw
def Tryz.laysM171_ren : Go.Shelf.Ren := ⟨fun | 171 => 41 | 243 => 75 | 246 => 105 | 283 => 132 | 284 => 133 | 285 => 134 | 286 => 135 | 129 => 160 | 317 => 159 | 318 => 161 | 319 => 162 | 320 => 163 | 337 => 178 | 338 => 179 | n => n, fun | 3 => 3 | 9 => 9 | 2 => 2 | 4 => 4 | 171 => 174 | 0 => 0 | 53 => 175 | 37 => 82 | 5 => 5 | 173 => 178 | 212 => 195 | 51 => 156 | 20 => 20 | 213 => 196 | 46 => 197 | 232 => 242 | 233 => 243 | n => n, fun | 17 => 0 | 18 => 2 | 19 => 3 | n => n⟩
theorem Tryz.laysM171 : Go.Proofs.LaysM.n171 Tryz.prog Tryz.laysM171_ren := {
  mixed := by kernel_rfl
  f129 := Tryz.func160.trans (congrArg some (by kernel_rfl))
  f171 := Tryz.func41.trans (congrArg some (by kernel_rfl))
  f243 := Tryz.func75.trans (congrArg some (by kernel_rfl))
  f246 := Tryz.func105.trans (congrArg some (by kernel_rfl))
  f283 := Tryz.func132.trans (congrArg some (by kernel_rfl))
  f284 := Tryz.func133.trans (congrArg some (by kernel_rfl))
  f285 := Tryz.func134.trans (congrArg some (by kernel_rfl))
  f286 := Tryz.func135.trans (congrArg some (by kernel_rfl))
  f317 := Tryz.func159.trans (congrArg some (by kernel_rfl))
  f318 := Tryz.func161.trans (congrArg some (by kernel_rfl))
  f319 := Tryz.func162.trans (congrArg some (by kernel_rfl))
  f320 := Tryz.func163.trans (congrArg some (by kernel_rfl))
  f337 := Tryz.func178.trans (congrArg some (by kernel_rfl))
  f338 := Tryz.func179.trans (congrArg some (by kernel_rfl))
  t0 := Tryz.underlying0
  a0 := Tryz.isAgg0
  z0 := Tryz.sizeOf0
  v0 := Tryz.zeroValue0
  t2 := Tryz.underlying2
  a2 := Tryz.isAgg2
  z2 := Tryz.sizeOf2
  v2 := Tryz.zeroValue2
  t3 := Tryz.underlying3
  a3 := Tryz.isAgg3
  z3 := Tryz.sizeOf3
  v3 := Tryz.zeroValue3
  t4 := Tryz.underlying4
  a4 := Tryz.isAgg4
  z4 := Tryz.sizeOf4
  v4 := Tryz.zeroValue4
  t5 := Tryz.underlying5
  a5 := Tryz.isAgg5
  z5 := Tryz.sizeOf5
  v5 := Tryz.zeroValue5
  t9 := Tryz.underlying9
  a9 := Tryz.isAgg9
  z9 := Tryz.sizeOf9
  v9 := Tryz.zeroValue9
  t20 := Tryz.underlying20
  a20 := Tryz.isAgg20
  z20 := Tryz.sizeOf20
  v20 := Tryz.zeroValue20
  t37 := Tryz.underlying82
  a37 := Tryz.isAgg82
  z37 := Tryz.sizeOf82
  v37 := Tryz.zeroValue82
  t46 := Tryz.underlying197
  a46 := Tryz.isAgg197
  z46 := Tryz.sizeOf197
  v46 := Tryz.zeroValue197
  t51 := Tryz.underlying156
  a51 := Tryz.isAgg156
  z51 := Tryz.sizeOf156
  v51 := Tryz.zeroValue156
  t53 := Tryz.underlying175
  a53 := Tryz.isAgg175
  z53 := Tryz.sizeOf175
  v53 := Tryz.zeroValue175
  t171 := Tryz.underlying174
  a171 := Tryz.isAgg174
  z171 := Tryz.sizeOf174
  v171 := Tryz.zeroValue174
  t173 := Tryz.underlying178
  a173 := Tryz.isAgg178
  z173 := Tryz.sizeOf178
  v173 := Tryz.zeroValue178
  t212 := Tryz.underlying195
  a212 := Tryz.isAgg195
  z212 := Tryz.sizeOf195
  v212 := Tryz.zeroValue195
  t213 := Tryz.underlying196
  a213 := Tryz.isAgg196
  z213 := Tryz.sizeOf196
  t232 := Tryz.underlying242
  a232 := Tryz.isAgg242
  z232 := Tryz.sizeOf242
  v232 := Tryz.zeroValue242
  t233 := Tryz.underlying243
  a233 := Tryz.isAgg243
  z233 := Tryz.sizeOf243
  v233 := Tryz.zeroValue243
  g17 := by kernel_rfl
  g18 := by kernel_rfl
  g19 := by kernel_rfl
  i0 := by kernel_rfl
  i2 := by kernel_rfl
  i3 := by kernel_rfl
  i4 := by kernel_rfl
  i5 := by kernel_rfl
  i9 := by kernel_rfl
  i20 := by kernel_rfl
  i37 := by kernel_rfl
  i46 := by kernel_rfl
  i51 := by kernel_rfl
  i53 := by kernel_rfl
  i171 := by kernel_rfl
  i173 := by kernel_rfl
  i212 := by kernel_rfl
  i232 := by kernel_rfl
  i233 := by kernel_rfl
  m17 := by kernel_rfl
  m18 := by kernel_rfl
  m19 := by kernel_rfl }
open Go.RowKit Go.Sort Go.Lib in
/-- strconv.Itoa: "Itoa is equivalent to FormatInt(int64(i), 10).": i's DECIMAL NUMERAL ('Lib.itoa': a '-' where i is negative, then the digits), FOR EVERY int. The world behind the call: the world before it, new blocks behind the heap (the library's 'var a [24]byte'), draws. (LAID: no walk: one application.) -/
theorem Tryz.strconv_Itoa (n : Int) (h0 : -9223372036854775808 ≤ n) (h1 : n ≤ 9223372036854775807) (w : World) (htab : Lib.TabIs Tryz.prog w "internal/strconv.uint64pow10" .u64 Lib.pow10Tab) :
    Calls Tryz.prog 41 #[.int .i64 n] w fun e w' => e = .returned (.string ⟨(Lib.itoa n).toArray⟩) ∧ ∃ k os, w' = grow (w.drewN k) os := Any.strconv_Itoa Tryz.laysM171 n h0 h1 w htab
def Tryz.laysM173_ren : Go.Shelf.Ren := ⟨fun | 173 => 89 | 246 => 105 | 283 => 132 | 284 => 133 | 285 => 134 | 286 => 135 | 129 => 160 | 317 => 159 | 318 => 161 | 319 => 162 | 320 => 163 | 337 => 178 | 338 => 179 | n => n, fun | 2 => 2 | 3 => 3 | 9 => 9 | 4 => 4 | 171 => 174 | 0 => 0 | 53 => 175 | 37 => 82 | 5 => 5 | 173 => 178 | 212 => 195 | 51 => 156 | 20 => 20 | 213 => 196 | 46 => 197 | 232 => 242 | 233 => 243 | n => n, fun | 17 => 0 | 18 => 2 | 19 => 3 | n => n⟩
theorem Tryz.laysM173 : Go.Proofs.LaysM.n173 Tryz.prog Tryz.laysM173_ren := {
  mixed := by kernel_rfl
  f129 := Tryz.func160.trans (congrArg some (by kernel_rfl))
  f173 := Tryz.func89.trans (congrArg some (by kernel_rfl))
  f246 := Tryz.func105.trans (congrArg some (by kernel_rfl))
  f283 := Tryz.func132.trans (congrArg some (by kernel_rfl))
  f284 := Tryz.func133.trans (congrArg some (by kernel_rfl))
  f285 := Tryz.func134.trans (congrArg some (by kernel_rfl))
  f286 := Tryz.func135.trans (congrArg some (by kernel_rfl))
  f317 := Tryz.func159.trans (congrArg some (by kernel_rfl))
  f318 := Tryz.func161.trans (congrArg some (by kernel_rfl))
  f319 := Tryz.func162.trans (congrArg some (by kernel_rfl))
  f320 := Tryz.func163.trans (congrArg some (by kernel_rfl))
  f337 := Tryz.func178.trans (congrArg some (by kernel_rfl))
  f338 := Tryz.func179.trans (congrArg some (by kernel_rfl))
  t0 := Tryz.underlying0
  a0 := Tryz.isAgg0
  z0 := Tryz.sizeOf0
  v0 := Tryz.zeroValue0
  t2 := Tryz.underlying2
  a2 := Tryz.isAgg2
  z2 := Tryz.sizeOf2
  v2 := Tryz.zeroValue2
  t3 := Tryz.underlying3
  a3 := Tryz.isAgg3
  z3 := Tryz.sizeOf3
  v3 := Tryz.zeroValue3
  t4 := Tryz.underlying4
  a4 := Tryz.isAgg4
  z4 := Tryz.sizeOf4
  v4 := Tryz.zeroValue4
  t5 := Tryz.underlying5
  a5 := Tryz.isAgg5
  z5 := Tryz.sizeOf5
  v5 := Tryz.zeroValue5
  t9 := Tryz.underlying9
  a9 := Tryz.isAgg9
  z9 := Tryz.sizeOf9
  v9 := Tryz.zeroValue9
  t20 := Tryz.underlying20
  a20 := Tryz.isAgg20
  z20 := Tryz.sizeOf20
  v20 := Tryz.zeroValue20
  t37 := Tryz.underlying82
  a37 := Tryz.isAgg82
  z37 := Tryz.sizeOf82
  v37 := Tryz.zeroValue82
  t46 := Tryz.underlying197
  a46 := Tryz.isAgg197
  z46 := Tryz.sizeOf197
  v46 := Tryz.zeroValue197
  t51 := Tryz.underlying156
  a51 := Tryz.isAgg156
  z51 := Tryz.sizeOf156
  v51 := Tryz.zeroValue156
  t53 := Tryz.underlying175
  a53 := Tryz.isAgg175
  z53 := Tryz.sizeOf175
  v53 := Tryz.zeroValue175
  t171 := Tryz.underlying174
  a171 := Tryz.isAgg174
  z171 := Tryz.sizeOf174
  v171 := Tryz.zeroValue174
  t173 := Tryz.underlying178
  a173 := Tryz.isAgg178
  z173 := Tryz.sizeOf178
  v173 := Tryz.zeroValue178
  t212 := Tryz.underlying195
  a212 := Tryz.isAgg195
  z212 := Tryz.sizeOf195
  v212 := Tryz.zeroValue195
  t213 := Tryz.underlying196
  a213 := Tryz.isAgg196
  z213 := Tryz.sizeOf196
  t232 := Tryz.underlying242
  a232 := Tryz.isAgg242
  z232 := Tryz.sizeOf242
  v232 := Tryz.zeroValue242
  t233 := Tryz.underlying243
  a233 := Tryz.isAgg243
  z233 := Tryz.sizeOf243
  v233 := Tryz.zeroValue243
  g17 := by kernel_rfl
  g18 := by kernel_rfl
  g19 := by kernel_rfl
  i0 := by kernel_rfl
  i2 := by kernel_rfl
  i3 := by kernel_rfl
  i4 := by kernel_rfl
  i5 := by kernel_rfl
  i9 := by kernel_rfl
  i20 := by kernel_rfl
  i37 := by kernel_rfl
  i46 := by kernel_rfl
  i51 := by kernel_rfl
  i53 := by kernel_rfl
  i171 := by kernel_rfl
  i173 := by kernel_rfl
  i212 := by kernel_rfl
  i232 := by kernel_rfl
  i233 := by kernel_rfl
  m17 := by kernel_rfl
  m18 := by kernel_rfl
  m19 := by kernel_rfl }
open Go.RowKit Go.Sort Go.Lib in
/-- strconv.FormatInt: "FormatInt returns the string representation of i in the given base": AT BASE 10: i's decimal numeral, for every int64. (LAID: no walk: one application.) -/
theorem Tryz.strconv_FormatInt_10 (n : Int) (h0 : -9223372036854775808 ≤ n) (h1 : n ≤ 9223372036854775807) (w : World) (htab : Lib.TabIs Tryz.prog w "internal/strconv.uint64pow10" .u64 Lib.pow10Tab) :
    Calls Tryz.prog 89 #[.int .i64 n, .int .i64 10] w fun e w' => e = .returned (.string ⟨(Lib.itoa n).toArray⟩) ∧ ∃ k os, w' = grow (w.drewN k) os := Any.strconv_FormatInt_10 Tryz.laysM173 n h0 h1 w htab
def Tryz.laysC174_ren : Go.Shelf.Ren := ⟨fun | 174 => 157 | 247 => 176 | 245 => 177 | 287 => 189 | 279 => 190 | 280 => 191 | 281 => 192 | 282 => 193 | 321 => 203 | 322 => 204 | 316 => 205 | 171 => 41 | 205 => 206 | 243 => 75 | 246 => 105 | 283 => 132 | 284 => 133 | 285 => 134 | 286 => 135 | 129 => 160 | 317 => 159 | 318 => 161 | 319 => 162 | 320 => 163 | 337 => 178 | 338 => 179 | n => n, fun | 9 => 9 | 3 => 3 | 2 => 2 | 75 => 88 | 85 => 190 | 4 => 4 | 167 => 236 | 5 => 5 | 53 => 175 | 175 => 237 | 46 => 197 | 168 => 239 | 37 => 82 | 0 => 0 | 210 => 256 | 21 => 21 | 127 => 126 | 145 => 262 | 143 => 260 | 171 => 174 | 173 => 178 | 212 => 195 | 51 => 156 | 20 => 20 | 213 => 196 | 232 => 242 | 233 => 243 | 80 => 93 | n => n, fun | 15 => 4 | 16 => 5 | 17 => 0 | 18 => 2 | 19 => 3 | n => n⟩
theorem Tryz.laysC174 : Go.Proofs.LaysC.n174 Tryz.prog Tryz.laysC174_ren := {
  mixed := by kernel_rfl
  f129 := Tryz.func160.trans (congrArg some (by kernel_rfl))
  f171 := Tryz.func41.trans (congrArg some (by kernel_rfl))
  f174 := Tryz.func157.trans (congrArg some (by kernel_rfl))
  f205 := Tryz.func206.trans (congrArg some (by kernel_rfl))
  f243 := Tryz.func75.trans (congrArg some (by kernel_rfl))
  f245 := Tryz.func177.trans (congrArg some (by kernel_rfl))
  f246 := Tryz.func105.trans (congrArg some (by kernel_rfl))
  f247 := Tryz.func176.trans (congrArg some (by kernel_rfl))
  f279 := Tryz.func190.trans (congrArg some (by kernel_rfl))
  f280 := Tryz.func191.trans (congrArg some (by kernel_rfl))
  f281 := Tryz.func192.trans (congrArg some (by kernel_rfl))
  f282 := Tryz.func193.trans (congrArg some (by kernel_rfl))
  f283 := Tryz.func132.trans (congrArg some (by kernel_rfl))
  f284 := Tryz.func133.trans (congrArg some (by kernel_rfl))
  f285 := Tryz.func134.trans (congrArg some (by kernel_rfl))
  f286 := Tryz.func135.trans (congrArg some (by kernel_rfl))
  f287 := Tryz.func189.trans (congrArg some (by kernel_rfl))
  f316 := Tryz.func205.trans (congrArg some (by kernel_rfl))
  f317 := Tryz.func159.trans (congrArg some (by kernel_rfl))
  f318 := Tryz.func161.trans (congrArg some (by kernel_rfl))
  f319 := Tryz.func162.trans (congrArg some (by kernel_rfl))
  f320 := Tryz.func163.trans (congrArg some (by kernel_rfl))
  f321 := Tryz.func203.trans (congrArg some (by kernel_rfl))
  f322 := Tryz.func204.trans (congrArg some (by kernel_rfl))
  f337 := Tryz.func178.trans (congrArg some (by kernel_rfl))
  f338 := Tryz.func179.trans (congrArg some (by kernel_rfl))
  t0 := Tryz.underlying0
  a0 := Tryz.isAgg0
  z0 := Tryz.sizeOf0
  v0 := Tryz.zeroValue0
  t2 := Tryz.underlying2
  a2 := Tryz.isAgg2
  z2 := Tryz.sizeOf2
  v2 := Tryz.zeroValue2
  t3 := Tryz.underlying3
  a3 := Tryz.isAgg3
  z3 := Tryz.sizeOf3
  v3 := Tryz.zeroValue3
  t4 := Tryz.underlying4
  a4 := Tryz.isAgg4
  z4 := Tryz.sizeOf4
  v4 := Tryz.zeroValue4
  t5 := Tryz.underlying5
  a5 := Tryz.isAgg5
  z5 := Tryz.sizeOf5
  v5 := Tryz.zeroValue5
  t9 := Tryz.underlying9
  a9 := Tryz.isAgg9
  z9 := Tryz.sizeOf9
  v9 := Tryz.zeroValue9
  t20 := Tryz.underlying20
  a20 := Tryz.isAgg20
  z20 := Tryz.sizeOf20
  v20 := Tryz.zeroValue20
  t21 := Tryz.underlying21
  a21 := Tryz.isAgg21
  z21 := Tryz.sizeOf21
  v21 := Tryz.zeroValue21
  t37 := Tryz.underlying82
  a37 := Tryz.isAgg82
  z37 := Tryz.sizeOf82
  v37 := Tryz.zeroValue82
  t46 := Tryz.underlying197
  a46 := Tryz.isAgg197
  z46 := Tryz.sizeOf197
  v46 := Tryz.zeroValue197
  t51 := Tryz.underlying156
  a51 := Tryz.isAgg156
  z51 := Tryz.sizeOf156
  v51 := Tryz.zeroValue156
  t53 := Tryz.underlying175
  a53 := Tryz.isAgg175
  z53 := Tryz.sizeOf175
  v53 := Tryz.zeroValue175
  t75 := Tryz.underlying88
  a75 := Tryz.isAgg88
  z75 := Tryz.sizeOf88
  v75 := Tryz.zeroValue88
  t85 := Tryz.underlying190
  a85 := Tryz.isAgg190
  z85 := Tryz.sizeOf190
  v85 := Tryz.zeroValue190
  t127 := Tryz.underlying126
  a127 := Tryz.isAgg126
  z127 := Tryz.sizeOf126
  v127 := Tryz.zeroValue126
  t143 := Tryz.underlying260
  a143 := Tryz.isAgg260
  z143 := Tryz.sizeOf260
  v143 := Tryz.zeroValue260
  t145 := Tryz.underlying262
  a145 := Tryz.isAgg262
  z145 := Tryz.sizeOf262
  v145 := Tryz.zeroValue262
  t167 := Tryz.underlying236
  a167 := Tryz.isAgg236
  z167 := Tryz.sizeOf236
  v167 := Tryz.zeroValue236
  t168 := Tryz.underlying239
  a168 := Tryz.isAgg239
  z168 := Tryz.sizeOf239
  v168 := Tryz.zeroValue239
  t171 := Tryz.underlying174
  a171 := Tryz.isAgg174
  z171 := Tryz.sizeOf174
  v171 := Tryz.zeroValue174
  t173 := Tryz.underlying178
  a173 := Tryz.isAgg178
  z173 := Tryz.sizeOf178
  v173 := Tryz.zeroValue178
  t175 := Tryz.underlying237
  a175 := Tryz.isAgg237
  z175 := Tryz.sizeOf237
  v175 := Tryz.zeroValue237
  t210 := Tryz.underlying256
  a210 := Tryz.isAgg256
  z210 := Tryz.sizeOf256
  v210 := Tryz.zeroValue256
  t212 := Tryz.underlying195
  a212 := Tryz.isAgg195
  z212 := Tryz.sizeOf195
  v212 := Tryz.zeroValue195
  t213 := Tryz.underlying196
  a213 := Tryz.isAgg196
  z213 := Tryz.sizeOf196
  t232 := Tryz.underlying242
  a232 := Tryz.isAgg242
  z232 := Tryz.sizeOf242
  v232 := Tryz.zeroValue242
  t233 := Tryz.underlying243
  a233 := Tryz.isAgg243
  z233 := Tryz.sizeOf243
  v233 := Tryz.zeroValue243
  g15 := by kernel_rfl
  g16 := by kernel_rfl
  g17 := by kernel_rfl
  g18 := by kernel_rfl
  g19 := by kernel_rfl
  t80 := Tryz.underlying93
  a80 := Tryz.isAgg93
  z80 := Tryz.sizeOf93
  v80 := Tryz.zeroValue93
  i0 := by kernel_rfl
  i2 := by kernel_rfl
  i3 := by kernel_rfl
  i4 := by kernel_rfl
  i5 := by kernel_rfl
  i9 := by kernel_rfl
  i20 := by kernel_rfl
  i21 := by kernel_rfl
  i37 := by kernel_rfl
  i46 := by kernel_rfl
  i51 := by kernel_rfl
  i53 := by kernel_rfl
  i75 := by kernel_rfl
  i80 := by kernel_rfl
  i85 := by kernel_rfl
  i127 := by kernel_rfl
  i143 := by kernel_rfl
  i145 := by kernel_rfl
  i167 := by kernel_rfl
  i168 := by kernel_rfl
  i171 := by kernel_rfl
  i173 := by kernel_rfl
  i175 := by kernel_rfl
  i210 := by kernel_rfl
  i212 := by kernel_rfl
  i232 := by kernel_rfl
  i233 := by kernel_rfl
  m15 := by kernel_rfl
  m16 := by kernel_rfl
  m17 := by kernel_rfl
  m18 := by kernel_rfl
  m19 := by kernel_rfl
  c0 := by kernel_rfl
  c2 := by kernel_rfl
  c3 := by kernel_rfl
  c4 := by kernel_rfl
  c5 := by kernel_rfl
  c9 := by kernel_rfl
  c20 := by kernel_rfl
  c21 := by kernel_rfl
  c37 := by kernel_rfl
  c46 := by kernel_rfl
  c51 := by kernel_rfl
  c53 := by kernel_rfl
  c75 := by kernel_rfl
  c80 := by kernel_rfl
  c85 := by kernel_rfl
  c127 := by kernel_rfl
  c143 := by kernel_rfl
  c145 := by kernel_rfl
  c167 := by kernel_rfl
  c168 := by kernel_rfl
  c171 := by kernel_rfl
  c173 := by kernel_rfl
  c175 := by kernel_rfl
  c210 := by kernel_rfl
  c212 := by kernel_rfl
  c213 := by kernel_rfl
  c232 := by kernel_rfl
  c233 := by kernel_rfl }
open Go.RowKit in
/-- strconv.ParseInt(s, 10, 64), AT EVERY STRING THAT SPELLS AN int64 ('Lib.parseIntB 64 s.data.toList = .ok v'): v, AND NO ERROR. (LAID: no walk: one application.) -/
theorem Tryz.strconv_ParseInt_10_at64_ok (s : ByteArray) (hmax : s.size ≤ 9223372036854775806) (v : Int) (h : Lib.parseIntB 64 s.data.toList = .ok v) (w : World) :
    Calls Tryz.prog 157 #[.string s, .int .i64 10, .int .i64 64] w fun e w' => e = .returned (.tuple #[.int .i64 v, .nilIface]) ∧ (w' = w ∨ ∃ t, w' = Lib.bytesWorld w 5 t) := Any.strconv_ParseInt_10_at64_ok Tryz.laysC174 s hmax v h w
open Go.RowKit in
/-- strconv.ParseInt(s, 10, 64), AT EVERY STRING THAT IS NO DECIMAL NUMERAL: 0, AND AN ERROR THAT IS NOT nil: a *NumError in a new block N: {Func: "ParseInt", Num: s's bytes, Err: what the variable ErrSyntax holds}. Of what was there nothing has turned. (LAID: no walk: one application.) -/
theorem Tryz.strconv_ParseInt_10_at64_syntax (s : ByteArray) (hlim : s.size ≤ 281474976710656) (h : Lib.parseIntB 64 s.data.toList = Lib.parseIntB 64 []) (ev : Value) (w : World) (hv : w.cell? ⟨4, 0, none⟩ = some ev) (hev : ev = .nilIface ∨ ∃ te pe, ev = .iface te pe) :
    Calls Tryz.prog 157 #[.string s, .int .i64 10, .int .i64 64] w fun e w' => ∃ N, e = .returned (.tuple #[.int .i64 (0), .iface 239 (.pointer (some ⟨N, 0, none⟩))]) ∧ w.heap.size ≤ N ∧ w'.heap[N]? = some (.cells #[.string ⟨#[80, 97, 114, 115, 101, 73, 110, 116]⟩, .string s, ev] 256 (0, 0)) ∧ Below w.heap.size w w' := Any.strconv_ParseInt_10_at64_syntax Tryz.laysC174 s hlim h ev w hv hev
open Go.RowKit in
/-- strconv.ParseInt(s, 10, 64), AT EVERY NUMERAL THAT NO int64 HOLDS: THE GREATEST OR THE LEAST int64, BY THE SIGN ('Lib.intSat 64'), AND AN ERROR THAT IS NOT nil: a *NumError in a new block N: {Func: "ParseInt", Num: s's bytes, Err: what the variable ErrRange holds}. Of what was there nothing has turned. (LAID: no walk: one application.) -/
theorem Tryz.strconv_ParseInt_10_at64_range (s : ByteArray) (hlim : s.size ≤ 281474976710656) (h : Lib.parseIntB 64 s.data.toList = .range) (ev : Value) (w : World) (hv : w.cell? ⟨5, 0, none⟩ = some ev) (hev : ev = .nilIface ∨ ∃ te pe, ev = .iface te pe) :
    Calls Tryz.prog 157 #[.string s, .int .i64 10, .int .i64 64] w fun e w' => ∃ N, e = .returned (.tuple #[.int .i64 (Lib.intSat 64 s.data.toList), .iface 239 (.pointer (some ⟨N, 0, none⟩))]) ∧ w.heap.size ≤ N ∧ w'.heap[N]? = some (.cells #[.string ⟨#[80, 97, 114, 115, 101, 73, 110, 116]⟩, .string s, ev] 256 (0, 0)) ∧ Below w.heap.size w w' := Any.strconv_ParseInt_10_at64_range Tryz.laysC174 s hlim h ev w hv hev
def Tryz.lays138_ren : Go.Shelf.Ren := ⟨fun | 138 => 241 | 195 => 242 | 218 => 243 | 143 => 244 | 219 => 245 | 217 => 175 | 225 => 246 | 224 => 247 | 267 => 248 | 266 => 188 | 314 => 249 | n => n, fun | 9 => 9 | 3 => 3 | 4 => 4 | 5 => 5 | 0 => 0 | 46 => 197 | 146 => 290 | 51 => 156 | n => n, fun | 1 => 1 | n => n⟩
theorem Tryz.lays138 : Go.Proofs.Lays.n138 Tryz.prog Tryz.lays138_ren := {
  mixed := by kernel_rfl
  f138 := Tryz.func241.trans (congrArg some (by kernel_rfl))
  f143 := Tryz.func244.trans (congrArg some (by kernel_rfl))
  f195 := Tryz.func242.trans (congrArg some (by kernel_rfl))
  f217 := Tryz.func175.trans (congrArg some (by kernel_rfl))
  f218 := Tryz.func243.trans (congrArg some (by kernel_rfl))
  f219 := Tryz.func245.trans (congrArg some (by kernel_rfl))
  f224 := Tryz.func247.trans (congrArg some (by kernel_rfl))
  f225 := Tryz.func246.trans (congrArg some (by kernel_rfl))
  f266 := Tryz.func188.trans (congrArg some (by kernel_rfl))
  f267 := Tryz.func248.trans (congrArg some (by kernel_rfl))
  f314 := Tryz.func249.trans (congrArg some (by kernel_rfl))
  t0 := Tryz.underlying0
  a0 := Tryz.isAgg0
  z0 := Tryz.sizeOf0
  v0 := Tryz.zeroValue0
  t3 := Tryz.underlying3
  a3 := Tryz.isAgg3
  z3 := Tryz.sizeOf3
  v3 := Tryz.zeroValue3
  t4 := Tryz.underlying4
  a4 := Tryz.isAgg4
  z4 := Tryz.sizeOf4
  v4 := Tryz.zeroValue4
  t5 := Tryz.underlying5
  a5 := Tryz.isAgg5
  z5 := Tryz.sizeOf5
  v5 := Tryz.zeroValue5
  t9 := Tryz.underlying9
  a9 := Tryz.isAgg9
  z9 := Tryz.sizeOf9
  v9 := Tryz.zeroValue9
  t46 := Tryz.underlying197
  a46 := Tryz.isAgg197
  z46 := Tryz.sizeOf197
  v46 := Tryz.zeroValue197
  t51 := Tryz.underlying156
  a51 := Tryz.isAgg156
  z51 := Tryz.sizeOf156
  v51 := Tryz.zeroValue156
  t146 := Tryz.underlying290
  a146 := Tryz.isAgg290
  z146 := Tryz.sizeOf290
  v146 := Tryz.zeroValue290
  g1 := by kernel_rfl }
open Go.RowKit Go.Lib in
/-- strings.Count AT A substr OF ONE BYTE ('hp'): "Count counts the number of non-overlapping instances of substr in s.": IT RETURNS 'Lib.countByte s (that byte)'; the world is as it was. ✋ NO CONTRACT HERE YET at an empty substr (utf8.RuneCountInString) or at a longer one (a loop over strings.Index). (LAID: no walk: one application.) -/
theorem Tryz.strings_Count_one (s : ByteArray) (c : UInt8) (w : World) :
    Calls Tryz.prog 241 #[.string s, .string ⟨#[c]⟩] w fun e w' => e = .returned (.int .i64 (Lib.countByte s.data.toList c)) ∧ w' = w := Any.strings_Count_one Tryz.lays138 s c w
def Tryz.lays99_ren : Go.Shelf.Ren := ⟨fun | 99 => 123 | 206 => 152 | n => n, fun | 9 => 9 | 4 => 4 | 3 => 3 | n => n, fun | n => n⟩
theorem Tryz.lays99 : Go.Proofs.Lays.n99 Tryz.prog Tryz.lays99_ren := {
  mixed := by kernel_rfl
  f99 := Tryz.func123.trans (congrArg some (by kernel_rfl))
  f206 := Tryz.func152.trans (congrArg some (by kernel_rfl))
  t3 := Tryz.underlying3
  a3 := Tryz.isAgg3
  z3 := Tryz.sizeOf3
  v3 := Tryz.zeroValue3
  t4 := Tryz.underlying4
  a4 := Tryz.isAgg4
  z4 := Tryz.sizeOf4
  v4 := Tryz.zeroValue4
  t9 := Tryz.underlying9
  a9 := Tryz.isAgg9
  z9 := Tryz.sizeOf9
  v9 := Tryz.zeroValue9 }
open Go.RowKit Go.Lib in
/-- strings.HasPrefix: "HasPrefix reports whether the string s begins with prefix.": IT RETURNS 'Lib.hasPrefix s prefix'; the world is as it was. (LAID: no walk: one application.) -/
theorem Tryz.strings_HasPrefix (s p : ByteArray) (w : World) :
    Calls Tryz.prog 123 #[.string s, .string p] w fun e w' => e = .returned (.bool (Lib.hasPrefix s.data.toList p.data.toList)) ∧ w' = w := Any.strings_HasPrefix Tryz.lays99 s p w
def Tryz.lays110_ren : Go.Shelf.Ren := ⟨fun | 110 => 148 | 109 => 167 | n => n, fun | 31 => 124 | 9 => 9 | 4 => 4 | 3 => 3 | 0 => 0 | n => n, fun | n => n⟩
theorem Tryz.lays110 : Go.Proofs.Lays.n110 Tryz.prog Tryz.lays110_ren := {
  mixed := by kernel_rfl
  f109 := Tryz.func167.trans (congrArg some (by kernel_rfl))
  f110 := Tryz.func148.trans (congrArg some (by kernel_rfl))
  t0 := Tryz.underlying0
  a0 := Tryz.isAgg0
  z0 := Tryz.sizeOf0
  v0 := Tryz.zeroValue0
  t3 := Tryz.underlying3
  a3 := Tryz.isAgg3
  z3 := Tryz.sizeOf3
  v3 := Tryz.zeroValue3
  t4 := Tryz.underlying4
  a4 := Tryz.isAgg4
  z4 := Tryz.sizeOf4
  v4 := Tryz.zeroValue4
  t9 := Tryz.underlying9
  a9 := Tryz.isAgg9
  z9 := Tryz.sizeOf9
  v9 := Tryz.zeroValue9
  t31 := Tryz.underlying124
  a31 := Tryz.isAgg124
  z31 := Tryz.sizeOf124
  v31 := Tryz.zeroValue124 }
open Go.Lib in
/-- slices.Contains at []string: "Contains reports whether v is present in s.": IT RETURNS 'Lib.containsS (the elements) v', which is true just where v is among them ('Lib.containsS_iff'); the world is as it was. ITS CALLEE slices.Index IS MET BY ITS OWN CONTRACT OFF THE SHELF (lay that first): no loop is walked here. (LAID: no walk: one application.) -/
theorem Tryz.slices_Contains_string (b off n c : Nat) (zs : List ByteArray) (x : ByteArray) (w : World) (hz : n ≤ zs.length) (hbig : n ≤ 9223372036854775807) (hc : ∀ j, j < zs.length → w.cell? ⟨b, off + j, none⟩ = some (.string (zs.getD j ByteArray.empty))) :
    Calls Tryz.prog 148 #[.slice (some ⟨b, off, none⟩) n c, .string x] w fun e w' => e = .returned (.bool (Lib.containsS (zs.take n) x)) ∧ w' = w := Any.slices_Contains_string Tryz.lays110 b off n c zs x w hz hbig hc
def Tryz.laysSlH8_f153_ren : Go.Shelf.Ren := ⟨fun | 8 => 153 | 6 => 174 | n => n, fun | 22 => 124 | 23 => 9 | 25 => 32 | 4 => 4 | 3 => 3 | 0 => 0 | n => n, fun | n => n⟩
theorem Tryz.laysSlH8_f153 : Go.Proofs.SlLaysH.n8 Tryz.prog Tryz.laysSlH8_f153_ren := {
  mixed := by kernel_rfl
  f6 := ⟨Tryz.f174.name, by decide, Tryz.func174.trans (congrArg some (by kernel_rfl))⟩
  f8 := ⟨Tryz.f153.name, by decide, Tryz.func153.trans (congrArg some (by kernel_rfl))⟩
  t0 := Tryz.underlying0
  a0 := Tryz.isAgg0
  z0 := Tryz.sizeOf0
  v0 := Tryz.zeroValue0
  t3 := Tryz.underlying3
  a3 := Tryz.isAgg3
  z3 := Tryz.sizeOf3
  v3 := Tryz.zeroValue3
  t4 := Tryz.underlying4
  a4 := Tryz.isAgg4
  z4 := Tryz.sizeOf4
  v4 := Tryz.zeroValue4
  t22 := Tryz.underlying124
  a22 := Tryz.isAgg124
  z22 := Tryz.sizeOf124
  v22 := Tryz.zeroValue124
  a23 := Tryz.isAgg9
  z23 := Tryz.sizeOf9
  t25 := Tryz.underlying32
  a25 := Tryz.isAgg32
  z25 := Tryz.sizeOf32
  v25 := Tryz.zeroValue32 }
open Go.RowKit Go.Lib in
/-- slices.ContainsFunc: "ContainsFunc reports whether at least one element e of s satisfies f(e).": ITS CALLEE slices.IndexFunc IS MET BY ITS OWN CONTRACT. (LAID AT THE INSTANCE 'slices.ContainsFunc[[]string,string]': no walk: one application.) -/
theorem Tryz.slices_ContainsFunc {α : Type} [Inhabited α] (enc : α → Value) (p : α → Bool) (g : Nat) (lb : Array Value) (eg : ∀ args w, (callFunc g args).run Tryz.prog w = .ok (.enter g args) w) (b off n c : Nat) (zs : List α) (w : World) (hp : PredAt Tryz.prog g lb enc p w) (hz : n ≤ zs.length) (hbig : n ≤ 9223372036854775807) (hc : ∀ j, j < zs.length → w.cell? ⟨b, off + j, none⟩ = some (enc zs[j]!)) :
    Calls Tryz.prog 153 #[.slice (some ⟨b, off, none⟩) n c, .func (.func g) #[] lb] w fun e w' => e = .returned (.bool ((zs.take n).any p)) ∧ ∃ q, w' = w.drewN q := AnyE.slices_ContainsFunc Tryz.laysSlH8_f153 enc p g lb eg b off n c zs w hp hz hbig hc
end Go.Proofs

namespace Go.Proofs.YtminbdcabacfbaaGreatDoor.V
set_option linter.unusedVariables false
set_option linter.unusedSimpArgs false
open Go.RowKit

/-- What the library's two errors are. -/
def ErrW (w : World) : Prop := (∃ ev, w.cell? ⟨5, 0, none⟩ = some ev ∧ ∃ te pe, ev = .iface te pe) ∧ (∃ ev, w.cell? ⟨4, 0, none⟩ = some ev ∧ ∃ te pe, ev = .iface te pe)
theorem ErrW.grown {w w' : World} {X : Nat} {s : ByteArray} {a : Nat} (h : ErrW w) (hT : IsText X s a w) (hg : w.grownBy w' (some X)) : ErrW w' := by
  obtain ⟨⟨e1, h1, t1, p1, q1⟩, ⟨e2, h2, t2, p2, q2⟩⟩ := h
  refine ⟨⟨e1, hg.cell h1 ?_, t1, p1, q1⟩, ⟨e2, hg.cell h2 ?_, t2, p2, q2⟩⟩
  · intro he
    have : 5 = X := by simpa using he
    have hc := hT.cell0
    rw [← this, h1, q1] at hc
    cases hc
  · intro he
    have : 4 = X := by simpa using he
    have hc := hT.cell0
    rw [← this, h2, q2] at hc
    cases hc
theorem ErrW.below {w w' : World} (h : ErrW w) (hb : Below w.heap.size w w') : ErrW w' := by
  obtain ⟨⟨e1, h1, q1⟩, ⟨e2, h2, q2⟩⟩ := h
  exact ⟨⟨e1, cell_below hb h1, q1⟩, ⟨e2, cell_below hb h2, q2⟩⟩
def errT (g : Lib.NumEnd Int) : Bool := match g with
  | .ok _ => false
  | _ => true
theorem bytes_below (w : World) (e : TypeId) (t : ByteArray) : Below w.heap.size w (Lib.bytesWorld w e t) := Lib.bytesWorld_below w e t
theorem pint_ok (t : ByteArray) (w : World) (ht : t.size ≤ 281474976710656) (v : Int) (h : Lib.parseIntB 64 t.data.toList = .ok v) : Calls Tryz.prog 157 #[.string t, .int .i64 10, .int .i64 64] w fun e w' =>
    e = .returned (.tuple #[.int .i64 v, .nilIface]) ∧ Below w.heap.size w w' := by
  have h3 := Tryz.strconv_ParseInt_10_at64_ok t (by omega) v h w
  refine h3.mono ?_
  rintro e w' ⟨rfl, hw⟩
  refine ⟨rfl, ?_⟩
  rcases hw with rfl | ⟨q, rfl⟩
  · exact Below.refl _ _
  · exact bytes_below _ _ _
theorem pint_err (t : ByteArray) (w : World) (hE : ErrW w) (ht : t.size ≤ 281474976710656) (h : errT (Lib.parseIntB 64 t.data.toList) = true) : Calls Tryz.prog 157 #[.string t, .int .i64 10, .int .i64 64] w fun e w' =>
    ∃ u te pe, e = .returned (.tuple #[.int .i64 u, .iface te pe]) ∧ Below w.heap.size w w' := by
  obtain ⟨⟨e1, h1, q1⟩, ⟨e2, h2, q2⟩⟩ := hE
  cases h4 : Lib.parseIntB 64 t.data.toList with
  | ok v => rw [h4] at h; cases h
  | range =>
    have h3 := Tryz.strconv_ParseInt_10_at64_range t ht h4 e1 w h1 (.inr q1)
    refine h3.mono ?_
    rintro e w' ⟨N, rfl, _, _, hb⟩
    exact ⟨_, _, _, rfl, hb⟩
  | _ =>
    have h3 := Tryz.strconv_ParseInt_10_at64_syntax t ht h4 e2 w h2 (.inr q2)
    refine h3.mono ?_
    rintro e w' ⟨N, rfl, _, _, hb⟩
    exact ⟨_, _, _, rfl, hb⟩

set_option maxRecDepth 100000 in
theorem number_calls (X : Nat) (s : ByteArray) (a : Nat) (w : World) (hT : IsText X s a w) (ha : a < s.size) (hs : s.size ≤ 65536) (hE : ErrW w) :
    Calls Tryz.prog 129 #[.pointer (some ⟨X, 0, none⟩)] w (OneIs X s (numL (s[a]'ha) (s.data.toList.drop (a + 1))) w) := by
  have hle := runB_le (P := figI) (s := s) (a := a + 1) ha
  have hlt := hT.lt
  have HA := Lib.hid (show a + 1 ≤ s.size from ha)
  have hT2 : IsText X s (a + 1) ((w.setCell ⟨X, 1, none⟩ (.int .i64 ((a + 1 : Nat) : Int))).alloc (.cells #[.int .i64 0, .string ⟨#[]⟩, .int .i64 0, .bool false, .int .i64 0] 71)) := (hT.set (a + 1)).grown (World.grownBy_alloc _ _ none) (by simp)
  have HK := Lib.hid (show IsTok w.heap.size (.int .i64 0) (.string ⟨#[]⟩) (.int .i64 0) (.bool false) (.int .i64 0) ((w.setCell ⟨X, 1, none⟩ (.int .i64 ((a + 1 : Nat) : Int))).alloc (.cells #[.int .i64 0, .string ⟨#[]⟩, .int .i64 0, .bool false, .int .i64 0] 71)) from by
    have := IsTok.new (v0 := .int .i64 0) (v1 := .string ⟨#[]⟩) (v2 := .int .i64 0) (v3 := .bool false) (v4 := .int .i64 0) (w.setCell ⟨X, 1, none⟩ (.int .i64 ((a + 1 : Nat) : Int)))
    rwa [show (w.setCell ⟨X, 1, none⟩ (.int .i64 ((a + 1 : Nat) : Int))).heap.size = w.heap.size by simp [World.setCell]] at this)
  have HG0 := Lib.hid (show w.grownBy ((w.setCell ⟨X, 1, none⟩ (.int .i64 ((a + 1 : Nat) : Int))).alloc (.cells #[.int .i64 0, .string ⟨#[]⟩, .int .i64 0, .bool false, .int .i64 0] 71)) (some X) from grown_trans (grown_set (World.grownBy.refl _ _) _ _) (World.grownBy_alloc _ _ _))
  have HE := Lib.hid ((hE.grown hT HG0.out))
  have t0 := (hT.grown (World.grownBy_alloc w (.cells #[.int .i64 0, .string ⟨#[]⟩, .int .i64 0, .bool false, .int .i64 0] 71) none) (by simp)).cell0
  have t1 := (hT.grown (World.grownBy_alloc w (.cells #[.int .i64 0, .string ⟨#[]⟩, .int .i64 0, .bool false, .int .i64 0] 71) none) (by simp)).cell1
  have f1 := (hT.grown (World.grownBy_alloc w (.cells #[.int .i64 0, .string ⟨#[]⟩, .int .i64 0, .bool false, .int .i64 0] 71) none) (by simp)).free 1
  have HT := Lib.hid hT2
  clear hT2
  have hle1 := hle.1
  have hle2 := hle.2
  clear hle
  have hle0 : a ≤ runB figI s (a + 1) := by omega
  have HEX := Lib.hid (show (s.extract a (runB figI s (a + 1))).data.toList = (s[a]'ha) :: (s.data.toList.drop (a + 1)).takeWhile (ofB figI) by
    rw [← runB_take figI s (a + 1)]
    simp only [ByteArray.data_extract, Array.toList_extract, List.extract]
    rw [drop_at ha, show runB figI s (a + 1) - a = (runB figI s (a + 1) - (a + 1)) + 1 by omega, List.take_succ_cons])
  have HSZ := Lib.hid (show (s.extract a (runB figI s (a + 1))).size ≤ 281474976710656 by
    have h1 : (s.extract a (runB figI s (a + 1))).size = min (runB figI s (a + 1)) s.size - a := by simp
    omega)
  have HD := Lib.hid (runB_drop figI s (a + 1))
  have HLE := Lib.hid hle2
  have HLT := Lib.hid hlt
  cases h4 : Lib.parseIntB 64 (s.extract a (runB figI s (a + 1))).data.toList with
  | ok v =>
    have HV := Lib.hid h4
    have HN := Lib.hid (show numL (s[a]'ha) (s.data.toList.drop (a + 1)) = .tok ⟨3, [], v, false⟩ ((s.data.toList.drop (a + 1)).dropWhile (ofB figI)) by
      unfold numL
      rw [← HEX.out, h4])
    clear h4
    go_enter Tryz.func129, Tryz.ntmps129
    go_wp2_with (go_at_call 121; ((with_reducible refine (run_calls en_fig tfig_calls X s (a + 1) _ ?_ HA.out hs).mono ?_); (focus (exact HT.out)); rintro e w1 ⟨rfl, ht1, hg1⟩; have HT1 := Lib.hid ht1; have c0' := ht1.cell0; have c1' := ht1.cell1; have C0 := Lib.hid c0'; have C1 := Lib.hid c1'; have HG1 := Lib.hid hg1; have hk1 := HK.out.grown hg1 (by simp; omega); have HK1 := Lib.hid hk1; have HE1 := Lib.hid (HE.out.grown HT.out hg1); clear hk1 ht1 hg1))
    go_region_held3 (fun W => W.cell? ⟨X, 0, none⟩ = some (.string s) ∧ W.cell? ⟨X, 1, none⟩ = some (.int .i64 (runB figI s (a + 1) : Int)) ∧ Below w1.heap.size w1 W)
      ((go_split_ands; refine ⟨?_, ?_, ?_⟩; (focus (first | with_reducible assumption | (refine cell_below (w := w1) ?_ C0.out; (focus (repeat (first | with_reducible assumption | with_reducible exact Below.refl _ _ | with_reducible apply Below.drew)))))); (focus (first | with_reducible assumption | (refine cell_below (w := w1) ?_ C1.out; (focus (repeat (first | with_reducible assumption | with_reducible exact Below.refl _ _ | with_reducible apply Below.drew)))))); (focus (repeat (first | with_reducible assumption | with_reducible exact Below.refl _ _ | with_reducible apply Below.drew)))))
      (first
        | (go_at_call 157; (with_reducible refine (pint_ok _ _ HSZ.out v HV.out).mono ?_); rintro e w2 ⟨rfl, hb⟩; (refine (have hbb : Below w1.heap.size w1 w2 := ?_; ?_); focus (refine below_then' ?_ hb (Nat.le_refl _); (focus (repeat (first | with_reducible assumption | with_reducible exact Below.refl _ _ | with_reducible apply Below.drew))))); have HB2 := Lib.hid hbb; clear hb))
    have hk2 := HK1.out.grown (grown_below HB2.out none) (by simp)
    have k0 := hk2.c0; have k1 := hk2.c1; have k2 := hk2.c2; have k3 := hk2.c3; have k4 := hk2.c4
    have l0 := hk2.fr 0; have l1 := hk2.fr 1; have l2 := hk2.fr 2; have l3 := hk2.fr 3; have l4 := hk2.fr 4
    have HK2 := Lib.hid hk2
    clear hk2
    go_wp2_with fail
    have hres := HK2.out.set (.int .i64 3) (.string ⟨#[]⟩) (.int .i64 v) (.bool false) (.int .i64 0)
    have HX := HLT.out
    have r0 := hres.c0; have r1 := hres.c1; have r2 := hres.c2; have r3 := hres.c3; have r4 := hres.c4
    refine bodyPost_ret (v := .tuple #[.agg #[.int .i64 3, .string ⟨#[]⟩, .int .i64 v, .bool false, .int .i64 0], .int .i64 0]) (by simp [results, Tryz.results129, go_sem, r0, r1, r2, r3, r4]) rfl ⟨grown_tokSet (grown_trans HG0.out (grown_trans HG1.out (grown_below HB2.out _))) (Nat.le_refl _) _ _ _ _ _, ?_⟩
    rw [HN.out]
    exact ⟨rfl, _, HLE.out, HD.out, (HT1.out.grown (grown_below HB2.out none) (by simp)).tokSet (by omega) _ _ _ _ _⟩
  | range =>
    have HV := Lib.hid (show errT (Lib.parseIntB 64 (s.extract a (runB figI s (a + 1))).data.toList) = true by rw [h4]; rfl)
    have HN := Lib.hid (show numL (s[a]'ha) (s.data.toList.drop (a + 1)) = .bad 3 by
      unfold numL
      rw [← HEX.out, h4])
    clear h4
    go_enter Tryz.func129, Tryz.ntmps129
    go_wp2_with (go_at_call 121; ((with_reducible refine (run_calls en_fig tfig_calls X s (a + 1) _ ?_ HA.out hs).mono ?_); (focus (exact HT.out)); rintro e w1 ⟨rfl, ht1, hg1⟩; have HT1 := Lib.hid ht1; have c0' := ht1.cell0; have c1' := ht1.cell1; have C0 := Lib.hid c0'; have C1 := Lib.hid c1'; have HG1 := Lib.hid hg1; have hk1 := HK.out.grown hg1 (by simp; omega); have HK1 := Lib.hid hk1; have HE1 := Lib.hid (HE.out.grown HT.out hg1); clear hk1 ht1 hg1))
    go_region_held3 (fun W => W.cell? ⟨X, 0, none⟩ = some (.string s) ∧ W.cell? ⟨X, 1, none⟩ = some (.int .i64 (runB figI s (a + 1) : Int)) ∧ Below w1.heap.size w1 W)
      ((go_split_ands; refine ⟨?_, ?_, ?_⟩; (focus (first | with_reducible assumption | (refine cell_below (w := w1) ?_ C0.out; (focus (repeat (first | with_reducible assumption | with_reducible exact Below.refl _ _ | with_reducible apply Below.drew)))))); (focus (first | with_reducible assumption | (refine cell_below (w := w1) ?_ C1.out; (focus (repeat (first | with_reducible assumption | with_reducible exact Below.refl _ _ | with_reducible apply Below.drew)))))); (focus (repeat (first | with_reducible assumption | with_reducible exact Below.refl _ _ | with_reducible apply Below.drew)))))
      (first
        | (go_at_call 157; (with_reducible refine (pint_err _ _ ?_ HSZ.out HV.out).mono ?_); (focus (refine HE1.out.below ?_; (focus (repeat (first | with_reducible assumption | with_reducible exact Below.refl _ _ | with_reducible apply Below.drew))))); rintro e w2 ⟨u, te, pe, rfl, hb⟩; (refine (have hbb : Below w1.heap.size w1 w2 := ?_; ?_); focus (refine below_then' ?_ hb (Nat.le_refl _); (focus (repeat (first | with_reducible assumption | with_reducible exact Below.refl _ _ | with_reducible apply Below.drew))))); have HB2 := Lib.hid hbb; clear hb))
    have hk2 := HK1.out.grown (grown_below HB2.out none) (by simp)
    have k0 := hk2.c0; have k1 := hk2.c1; have k2 := hk2.c2; have k3 := hk2.c3; have k4 := hk2.c4
    have l0 := hk2.fr 0; have l1 := hk2.fr 1; have l2 := hk2.fr 2; have l3 := hk2.fr 3; have l4 := hk2.fr 4
    have HK2 := Lib.hid hk2
    clear hk2
    go_wp2_with fail
    have hres := HK2.out.set (.int .i64 0) (.string ⟨#[]⟩) (.int .i64 0) (.bool false) (.int .i64 0)
    have HX := HLT.out
    have r0 := hres.c0; have r1 := hres.c1; have r2 := hres.c2; have r3 := hres.c3; have r4 := hres.c4
    refine bodyPost_ret (v := .tuple #[.agg #[.int .i64 0, .string ⟨#[]⟩, .int .i64 0, .bool false, .int .i64 0], .int .i64 3]) (by simp [results, Tryz.results129, go_sem, r0, r1, r2, r3, r4]) rfl ⟨grown_tokSet (grown_trans HG0.out (grown_trans HG1.out (grown_below HB2.out _))) (Nat.le_refl _) _ _ _ _ _, ?_⟩
    rw [HN.out]
    exact ⟨rfl, _, (HT1.out.grown (grown_below HB2.out none) (by simp)).tokSet (by omega) _ _ _ _ _⟩
  | _ =>
    have HV := Lib.hid (show errT (Lib.parseIntB 64 (s.extract a (runB figI s (a + 1))).data.toList) = true by rw [h4]; rfl)
    have HN := Lib.hid (show numL (s[a]'ha) (s.data.toList.drop (a + 1)) = .bad 3 by
      unfold numL
      rw [← HEX.out, h4])
    clear h4
    go_enter Tryz.func129, Tryz.ntmps129
    go_wp2_with (go_at_call 121; ((with_reducible refine (run_calls en_fig tfig_calls X s (a + 1) _ ?_ HA.out hs).mono ?_); (focus (exact HT.out)); rintro e w1 ⟨rfl, ht1, hg1⟩; have HT1 := Lib.hid ht1; have c0' := ht1.cell0; have c1' := ht1.cell1; have C0 := Lib.hid c0'; have C1 := Lib.hid c1'; have HG1 := Lib.hid hg1; have hk1 := HK.out.grown hg1 (by simp; omega); have HK1 := Lib.hid hk1; have HE1 := Lib.hid (HE.out.grown HT.out hg1); clear hk1 ht1 hg1))
    go_region_held3 (fun W => W.cell? ⟨X, 0, none⟩ = some (.string s) ∧ W.cell? ⟨X, 1, none⟩ = some (.int .i64 (runB figI s (a + 1) : Int)) ∧ Below w1.heap.size w1 W)
      ((go_split_ands; refine ⟨?_, ?_, ?_⟩; (focus (first | with_reducible assumption | (refine cell_below (w := w1) ?_ C0.out; (focus (repeat (first | with_reducible assumption | with_reducible exact Below.refl _ _ | with_reducible apply Below.drew)))))); (focus (first | with_reducible assumption | (refine cell_below (w := w1) ?_ C1.out; (focus (repeat (first | with_reducible assumption | with_reducible exact Below.refl _ _ | with_reducible apply Below.drew)))))); (focus (repeat (first | with_reducible assumption | with_reducible exact Below.refl _ _ | with_reducible apply Below.drew)))))
      (first
        | (go_at_call 157; (with_reducible refine (pint_err _ _ ?_ HSZ.out HV.out).mono ?_); (focus (refine HE1.out.below ?_; (focus (repeat (first | with_reducible assumption | with_reducible exact Below.refl _ _ | with_reducible apply Below.drew))))); rintro e w2 ⟨u, te, pe, rfl, hb⟩; (refine (have hbb : Below w1.heap.size w1 w2 := ?_; ?_); focus (refine below_then' ?_ hb (Nat.le_refl _); (focus (repeat (first | with_reducible assumption | with_reducible exact Below.refl _ _ | with_reducible apply Below.drew))))); have HB2 := Lib.hid hbb; clear hb))
    have hk2 := HK1.out.grown (grown_below HB2.out none) (by simp)
    have k0 := hk2.c0; have k1 := hk2.c1; have k2 := hk2.c2; have k3 := hk2.c3; have k4 := hk2.c4
    have l0 := hk2.fr 0; have l1 := hk2.fr 1; have l2 := hk2.fr 2; have l3 := hk2.fr 3; have l4 := hk2.fr 4
    have HK2 := Lib.hid hk2
    clear hk2
    go_wp2_with fail
    have hres := HK2.out.set (.int .i64 0) (.string ⟨#[]⟩) (.int .i64 0) (.bool false) (.int .i64 0)
    have HX := HLT.out
    have r0 := hres.c0; have r1 := hres.c1; have r2 := hres.c2; have r3 := hres.c3; have r4 := hres.c4
    refine bodyPost_ret (v := .tuple #[.agg #[.int .i64 0, .string ⟨#[]⟩, .int .i64 0, .bool false, .int .i64 0], .int .i64 3]) (by simp [results, Tryz.results129, go_sem, r0, r1, r2, r3, r4]) rfl ⟨grown_tokSet (grown_trans HG0.out (grown_trans HG1.out (grown_below HB2.out _))) (Nat.le_refl _) _ _ _ _ _, ?_⟩
    rw [HN.out]
    exact ⟨rfl, _, (HT1.out.grown (grown_below HB2.out none) (by simp)).tokSet (by omega) _ _ _ _ _⟩
end Go.Proofs.YtminbdcabacfbaaGreatDoor.V

namespace Go.Proofs.YtminbdcabacfbaaGreatDoor.V
set_option linter.unusedSimpArgs false
set_option linter.unusedVariables false
open Go.ChangeShapes Go.WideShapes Go.ChangeAt Go.RowKit
set_option maxRecDepth 100000

theorem own : ownKnob Tryz.prog.godebug = none := by kernel_rfl
theorem laidOut : laidOutB Tryz.prog = true := by kernel_rfl

/-- What is laid. -/
abbrev laidL {H : Type} : List (String × DataW H) := [("math/bits.deBruijn32tab", Rows.laid_math_bits_deBruijn32tab), ("math/bits.deBruijn64tab", Rows.laid_math_bits_deBruijn64tab), ("internal/strconv.uint64pow10", Rows.laid_internal_strconv_uint64pow10), ("strconv.ErrRange", Rows.laid_strconv_ErrRange), ("strconv.ErrSyntax", Rows.laid_strconv_ErrSyntax)]
theorem err_cell {W : World} {n : String} {g : Nat} {u : TypeId} {a : Value} (hn : Tryz.prog.globalNamed n = some g) (h : W.var? Tryz.prog n = some #[.iface u a]) : ∃ ev, W.cell? ⟨g, 0, none⟩ = some ev ∧ ∃ te pe, ev = .iface te pe :=
  ⟨_, by simpa using World.var?_cell hn h 0, _, _, rfl⟩
theorem errW_of {W : World} (h : laidMetH Tryz.prog laidL W) : ErrW W := by
  have h0 : laidMet Tryz.prog laidL W := h
  have h3 := laidMet.tail (laidMet.tail (laidMet.tail h0))
  have h4 := laidMet.tail h3
  have hp : ∀ u, Tryz.prog.typeName? 3 u = some "*errors.errorString" → u = 260 := by
    have star : "*" ++ "errors.errorString" = "*errors.errorString" := by decide
    intro u hu
    exact typeName_ptr_named (nm := "errors.errorString") (by rw [star]; kernel_rfl) (by kernel_rfl) (by decide) u (by rw [star]; exact hu)
  obtain ⟨a1, s1, hv1, _⟩ := laid_sentinel h3 (g := 5) (by kernel_rfl) (by kernel_rfl) Tryz.underlying88 hp Tryz.underlying260 Tryz.underlying262 rfl rfl Tryz.underlying9 (by kernel_rfl) (by kernel_rfl)
  obtain ⟨a2, s2, hv2, _⟩ := laid_sentinel h4 (g := 4) (by kernel_rfl) (by kernel_rfl) Tryz.underlying88 hp Tryz.underlying260 Tryz.underlying262 rfl rfl Tryz.underlying9 (by kernel_rfl) (by kernel_rfl)
  exact ⟨err_cell (by kernel_rfl) hv1, err_cell (by kernel_rfl) hv2⟩

/-- The cells of laid data. -/
def datCells : DataW Unit → Array Value
  | .agg l => (l.map fun
    | .lit (.int k n) => Value.int k n
    | _ => .bool false).toArray
  | _ => #[]
/-- A block's cells anew. -/
def putCells (cs : Array Value) : Obj → Obj
  | .cells _ t frozen => .cells cs t frozen
  | o => o
noncomputable def settled (os : Os) : World := World.holding Tryz.prog os ⟨#[], #[], []⟩
/-- A world for the witness: the settled one, the tables and the two errors as they are laid. -/
noncomputable def laidWorld (os : Os) : World :=
  { settled os with
    heap := ((((((settled os).heap.modify 2 (putCells (datCells Rows.laid_math_bits_deBruijn32tab))).modify 3 (putCells (datCells Rows.laid_math_bits_deBruijn64tab))).modify 0 (putCells (datCells Rows.laid_internal_strconv_uint64pow10))).modify 5 (putCells #[.iface 260 (.pointer (some ⟨(settled os).heap.size, 0, none⟩))])).modify 4 (putCells #[.iface 260 (.pointer (some ⟨(settled os).heap.size + 1, 0, none⟩))])).push (.cells #[.string ⟨#[118, 97, 108, 117, 101, 32, 111, 117, 116, 32, 111, 102, 32, 114, 97, 110, 103, 101]⟩] 262) |>.push (.cells #[.string ⟨#[105, 110, 118, 97, 108, 105, 100, 32, 115, 121, 110, 116, 97, 120]⟩] 262) }
theorem laid_met (os : Os) (args : Array Value) : laidMet Tryz.prog laidL ((laidWorld os).forCall (fun _ _ => 0) ⟨#[], args, []⟩).memory :=
  laidMet_of_run' 8 (by kernel_rfl) (by kernel_rfl)
end Go.Proofs.YtminbdcabacfbaaGreatDoor.V

namespace Go.Proofs.YtminbdcabacfbaaGreatDoor.V
set_option linter.unusedSimpArgs false
set_option linter.unusedVariables false

theorem disable (w : World) : (callFunc 194 #[]).run Tryz.prog w = .ok (.value (.tuple #[])) w := run_call_mark0 Tryz.func194 (by kernel_rfl) (by kernel_rfl) (by kernel_rfl) .disable (by kernel_rfl) w
theorem enable (w : World) : (callFunc 196 #[]).run Tryz.prog w = .ok (.value (.tuple #[])) w := run_call_mark0 Tryz.func196 (by kernel_rfl) (by kernel_rfl) (by kernel_rfl) .enable (by kernel_rfl) w
theorem acquire (a : Addr) (w : World) : (callFunc 197 #[.pointer (some a)]).run Tryz.prog w = .ok (.value (.tuple #[])) w := run_call_marked Tryz.func197 (by kernel_rfl) (by kernel_rfl) (by kernel_rfl) .acquire (by kernel_rfl) a w
theorem releaseMerge (a : Addr) (w : World) : (callFunc 199 #[.pointer (some a)]).run Tryz.prog w = .ok (.value (.tuple #[])) w := run_call_marked Tryz.func199 (by kernel_rfl) (by kernel_rfl) (by kernel_rfl) .releaseMerge (by kernel_rfl) a w

theorem store_deferred (a : Addr) (x : Value) (u : FrameMode) (w : World) (hc : w.cell? a = some x) (hz : w.frozen? a = false) :
    CallsD Tryz.prog 171 #[.pointer (some a), .bool true] u w fun e u' w' => u' = u ∧ (e = .returned (.tuple #[]) ∧ w' = w.drew.setCell a (.int .u32 1)) := by
  have hc' : w.drew.cell? a = some x := by go_simp
  have hz' : w.drew.frozen? a = false := by go_simp
  have hst := run_call_store (P := Tryz.prog) Tryz.func184 (by kernel_rfl) (by kernel_rfl) (by kernel_rfl) (by kernel_rfl) (k := .u32) (y := 1) hc' hz'
  go_enter_d Tryz.func171, Tryz.ntmps171
  go_wp2
  go_region_calls
  all_goals (go_end0; exact ⟨rfl, rfl⟩)

set_option maxRecDepth 100000 in
theorem unlock_deferred (a : Addr) (u : FrameMode) (w : World) (hc : w.cell? a = some (.int .i32 1)) (hz : w.frozen? a = false) :
    CallsD Tryz.prog 170 #[.pointer (some a)] u w fun e u' w' => u' = u ∧ (e = .returned (.tuple #[]) ∧ w' = w.setCell a (.int .i32 0)) := by
  have hd := disable
  have he := enable
  have hr := releaseMerge
  have hadd := run_call_add (P := Tryz.prog) Tryz.func200 (by kernel_rfl) (by kernel_rfl) (by kernel_rfl) .i32 (by kernel_rfl) (y := -1) (s := 0) hc hz (by simp [go_sem]; rfl)
  have hcv := run_convert_to_unsafe (P := Tryz.prog) (src := 244) (dst := 143) Tryz.underlying244 Tryz.underlying143 (by kernel_rfl) hc
  go_enter_d Tryz.func170, Tryz.ntmps170
  go_wp2
  go_end0
  go_wp2
  go_end0
  exact ⟨rfl, rfl⟩

set_option maxRecDepth 100000 in
theorem lock_free (a : Addr) (w : World) (hc : w.cell? a = some (.int .i32 0)) (hz : w.frozen? a = false) :
    Calls Tryz.prog 169 #[.pointer (some a)] w fun e w' => e = .returned (.tuple #[]) ∧ w' = w.setCell a (.int .i32 1) := by
  have hd := disable
  have he := enable
  have ha := acquire
  have hcas := run_call_cas_hit (P := Tryz.prog) Tryz.func195 (by kernel_rfl) (by kernel_rfl) (by kernel_rfl) .i32 (by kernel_rfl) (y := 1) hc hz
  have hc' : (w.setCell a (.int .i32 1)).cell? a = some (.int .i32 1) := World.cell?_setCell_same w a _ hc
  have hcv := run_convert_to_unsafe (P := Tryz.prog) (src := 244) (dst := 143) Tryz.underlying244 Tryz.underlying143 (by kernel_rfl) hc'
  go_enter Tryz.func169, Tryz.ntmps169
  go_wp2
  first | go_end0 | (simp only [Exit.inBlock, Exit.then]; refine bodyPost_ret (results_none rfl _ _ _) rfl ?_) | refine bodyPost_ret (results_none rfl _ _ _) rfl ?_
  go_wp2
  go_end0
  exact ⟨rfl, rfl⟩
end Go.Proofs.YtminbdcabacfbaaGreatDoor.V
