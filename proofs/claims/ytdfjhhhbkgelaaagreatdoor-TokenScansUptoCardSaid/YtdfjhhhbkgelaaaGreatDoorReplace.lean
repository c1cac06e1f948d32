/- (*strings.byteStringReplacer).Replace, over the table that build has laid. -/
import Derived.Test.YtdfjhhhbkgelaaaGreatDoorOnce
import Derived.Test.YtdfjhhhbkgelaaaGreatDoorEsc
import Derived.Test.YtdfjhhhbkgelaaaGreatDoorShelf
import Derived.Deep.QuietTactic
import Derived.BigQuiet
import Derived.Deep.Cut
import Derived.Deep.DeepCutAuto
import Derived.Laws.CopyOwn
import Derived.Laws.MakeOwn
import Derived.Deep.RegionLaw
import Derived.Deep.RegionHeld3
import Derived.IntWalk
namespace Go.Proofs.YtdfjhhhbkgelaaaGreatDoor.V
set_option linter.unusedVariables false
open Go.RowKit
set_option linter.unusedSimpArgs false

/-- The table, read. -/
structure Rep (W : World) (q : Nat) (A : Option Addr) (c : Nat) (C : Array Value) : Prop where
  block : W.heap[q]? = some (Obj.cells C 137 (0, 0))
  last : C[256]? = some (.slice A 3 c)
  tab : Tab W C 3
  olds : ∃ (a : Nat) (cur : Array Value) (m : Nat × Nat), A = some ⟨a, 0, none⟩ ∧ W.heap[a]? = some (Obj.cells cur 9 m) ∧ cur[0]? = some (.string ⟨#[10]⟩) ∧ cur[1]? = some (.string ⟨#[39]⟩) ∧ cur[2]? = some (.string ⟨#[92]⟩)

/-- The table at a byte. -/
def TabAt (W : World) (C : Array Value) (c : UInt8) : Prop := (special c = true → ∃ (a cap : Nat) (D : Array Value) (m : Nat × Nat) (x y : UInt8), C[c.toNat]? = some (.slice (some ⟨a, 0, none⟩) 2 cap) ∧ W.heap[a]? = some (Obj.cells D 5 m) ∧ D[0]? = some (.int .u8 (x.toNat : Int)) ∧ D[1]? = some (.int .u8 (y.toNat : Int)) ∧ escB c = [x, y]) ∧ (special c = false → C[c.toNat]? = some (.slice none 0 0))
theorem tab_at {W : World} {C : Array Value} (h : Tab W C 3) (c : UInt8) : TabAt W C c := by
  have hc := c.toNat_lt
  have ht := h c.toNat (by omega)
  constructor
  · intro hs
    unfold special at hs
    simp only [Bool.or_eq_true, beq_iff_eq] at hs
    rcases hs with (rfl | rfl) | rfl
    · obtain ⟨a, cap, D, m, h1, h2, h3, h4⟩ := (h 10 (by decide) : ∃ (a cap : Nat) (D : Array Value) (m : Nat × Nat), C[10]? = some (.slice (some ⟨a, 0, none⟩) 2 cap) ∧ W.heap[a]? = some (.cells D 5 m) ∧ D[0]? = some (.int .u8 92) ∧ D[1]? = some (.int .u8 110))
      exact ⟨a, cap, D, m, 92, 110, h1, h2, h3, h4, rfl⟩
    · obtain ⟨a, cap, D, m, h1, h2, h3, h4⟩ := (h 39 (by decide) : ∃ (a cap : Nat) (D : Array Value) (m : Nat × Nat), C[39]? = some (.slice (some ⟨a, 0, none⟩) 2 cap) ∧ W.heap[a]? = some (.cells D 5 m) ∧ D[0]? = some (.int .u8 92) ∧ D[1]? = some (.int .u8 39))
      exact ⟨a, cap, D, m, 92, 39, h1, h2, h3, h4, rfl⟩
    · obtain ⟨a, cap, D, m, h1, h2, h3, h4⟩ := (h 92 (by decide) : ∃ (a cap : Nat) (D : Array Value) (m : Nat × Nat), C[92]? = some (.slice (some ⟨a, 0, none⟩) 2 cap) ∧ W.heap[a]? = some (.cells D 5 m) ∧ D[0]? = some (.int .u8 92) ∧ D[1]? = some (.int .u8 92))
      exact ⟨a, cap, D, m, 92, 92, h1, h2, h3, h4, rfl⟩
  · intro hs
    have hn : newsK 3 c.toNat = none := by
      unfold special at hs
      simp only [Bool.or_eq_false_iff, beq_eq_false_iff_ne] at hs
      have e : ∀ n : Nat, n < 256 → c.toNat = n → c = UInt8.ofNat n := fun n _ hcn => by rw [← hcn]; simp
      have h1 : c.toNat ≠ 10 := fun hh => hs.1.1 (e 10 (by decide) hh)
      have h2 : c.toNat ≠ 39 := fun hh => hs.1.2 (e 39 (by decide) hh)
      have h3 : c.toNat ≠ 92 := fun hh => hs.2 (e 92 (by decide) hh)
      simp [newsK, h1, h2, h3]
    rw [hn] at ht
    exact ht
/-- How many are counted behind k rounds. -/
def part (a b c : Nat) : Nat → Nat
  | 0 => 0
  | 1 => a
  | 2 => a + b
  | _ => a + b + c

theorem sizeByte : (Tryz.prog.info? 5).map (·.size) = some 1 := by kernel_rfl
theorem two_cells {W : World} {a : Nat} {x y : UInt8} (h0 : W.cell? ⟨a, 0, none⟩ = some (.int .u8 (x.toNat : Int))) (h1 : W.cell? ⟨a, 1, none⟩ = some (.int .u8 (y.toNat : Int))) (j : Nat) (v : Value) (hv : (bytesV [x, y])[j]? = some v) : W.cell? ((⟨a, 0, none⟩ : Addr).add j) = some v := by
  rcases j with _ | _ | j
  · obtain rfl : Value.int .u8 (x.toNat : Int) = v := by simpa [bytesV] using hv
    exact h0
  · obtain rfl : Value.int .u8 (y.toNat : Int) = v := by simpa [bytesV] using hv
    exact h1
  · simp [bytesV] at hv
theorem bytesV_one {l : List UInt8} {v : Value} (hv : v ∈ bytesV l) : v.oneCell' = true := by
  obtain ⟨b, _, rfl⟩ := List.mem_map.1 hv
  rfl
theorem infoByte : (Tryz.prog.info? 5).map (fun i => (i.zero, i.size, i.bytes)) = some (some (.int .u8 0), 1, 1) := by kernel_rfl
set_option maxRecDepth 100000 in
set_option maxHeartbeats 4000000 in
theorem replace_calls (q : Nat) (A : Option Addr) (c : Nat) (C : Array Value) (s : ByteArray) (w : World) (hR : Rep w q A c C) (hs : s.size ≤ 1099511627776) :
    Calls Tryz.prog 153 #[.pointer (some ⟨q, 0, none⟩), .string s] w fun e w' => e = .returned (.string ⟨(escL s.data.toList).toArray⟩) ∧ Below w.heap.size w w' := by
  have HR := Lib.hid hR
  have t256 : w.cell? ⟨q, 256, none⟩ = some (.slice A 3 c) := (cell_of_row _ _ 256 _ _ _ hR.block).trans hR.last
  clear hR
  go_enter Tryz.func153, Tryz.ntmps153
  go_upto_if 26 with fail
  go_cut [5, 6] (fun s5 s6 wx => ∃ b, s5 = .int .i64 (((escL s.data.toList).length : Nat) : Int) ∧ s6 = .bool b ∧ b = s.data.toList.any special ∧ Below w.heap.size w wx)
  case first =>
    obtain ⟨a, cur, mo, hA, hko, p0, p1, p2⟩ := HR.out.olds
    have o0 : w.cell? ⟨a, 0, none⟩ = some (.string ⟨#[10]⟩) := (cell_of_row _ _ 0 _ _ _ hko).trans p0
    have o1 : w.cell? ⟨a, 1, none⟩ = some (.string ⟨#[39]⟩) := (cell_of_row _ _ 1 _ _ _ hko).trans p1
    have o2 : w.cell? ⟨a, 2, none⟩ = some (.string ⟨#[92]⟩) := (cell_of_row _ _ 2 _ _ _ hko).trans p2
    clear hko p0 p1 p2
    subst hA
    have O0 := Lib.hid o0
    have O1 := Lib.hid o1
    have O2 := Lib.hid o2
    clear o0 o1 o2
    obtain ⟨n10, hn10⟩ : ∃ n, n = Lib.countByte s.data.toList 10 := ⟨_, rfl⟩
    obtain ⟨n39, hn39⟩ : ∃ n, n = Lib.countByte s.data.toList 39 := ⟨_, rfl⟩
    obtain ⟨n92, hn92⟩ : ∃ n, n = Lib.countByte s.data.toList 92 := ⟨_, rfl⟩
    have hsum : n10 + n39 + n92 ≤ s.size := by
      have := cntS_split s.data.toList
      have := cntS_le s.data.toList
      have hl : s.data.toList.length = s.size := by simp
      omega
    obtain ⟨a10, cap10, D10, m10, h10c, h10b, h10x, h10y⟩ := (HR.out.tab 10 (by decide) : ∃ (a cap : Nat) (D : Array Value) (m : Nat × Nat), C[10]? = some (.slice (some ⟨a, 0, none⟩) 2 cap) ∧ w.heap[a]? = some (.cells D 5 m) ∧ D[0]? = some (.int .u8 92) ∧ D[1]? = some (.int .u8 110))
    obtain ⟨a39, cap39, D39, m39, h39c, h39b, h39x, h39y⟩ := (HR.out.tab 39 (by decide) : ∃ (a cap : Nat) (D : Array Value) (m : Nat × Nat), C[39]? = some (.slice (some ⟨a, 0, none⟩) 2 cap) ∧ w.heap[a]? = some (.cells D 5 m) ∧ D[0]? = some (.int .u8 92) ∧ D[1]? = some (.int .u8 39))
    obtain ⟨a92, cap92, D92, m92, h92c, h92b, h92x, h92y⟩ := (HR.out.tab 92 (by decide) : ∃ (a cap : Nat) (D : Array Value) (m : Nat × Nat), C[92]? = some (.slice (some ⟨a, 0, none⟩) 2 cap) ∧ w.heap[a]? = some (.cells D 5 m) ∧ D[0]? = some (.int .u8 92) ∧ D[1]? = some (.int .u8 92))
    clear h10b h10x h10y h39b h39x h39y h92b h92x h92y
    have e10 : ∀ h, ((⟨#[10]⟩ : ByteArray)[0]'h).toNat = 10 := fun _ => rfl
    have e39 : ∀ h, ((⟨#[39]⟩ : ByteArray)[0]'h).toNat = 39 := fun _ => rfl
    have e92 : ∀ h, ((⟨#[92]⟩ : ByteArray)[0]'h).toNat = 92 := fun _ => rfl
    have H10 := Lib.hid hn10
    have H39 := Lib.hid hn39
    have H92 := Lib.hid hn92
    clear hn10 hn39 hn92
    by_cases h24 : 24 ≤ s.size
    · have h24d : decide ((24 : Int) ≤ (s.size : Int)) = true := decide_eq_true (by omega)
      rw [h24d]
      go_wp2_with fail
      go_loopw [5, 6, 8, 9, 32] (fun n b _ _ i wr => ∃ (k p : Nat) (bb : Bool), k ≤ 3 ∧ i = .int .i64 k ∧ n = .int .i64 ((s.size : Int) + (p : Int)) ∧ b = .bool bb ∧ p = part n10 n39 n92 k ∧ bb = decide (0 < p) ∧ Below w.heap.size w wr) (fun _ _ _ _ i _ => 3 - (intOf i).toNat)
      case atStart => exact ⟨0, 0, false, by omega, rfl, by simp, rfl, rfl, rfl, Below.refl _ _⟩
      case round =>
        obtain ⟨k, p, bb, hk, rfl, rfl, rfl, hp, hbb, hb⟩ := hrel
        have hkk : k = 0 ∨ k = 1 ∨ k = 2 ∨ k = 3 := by omega
        rcases hkk with rfl | rfl | rfl | rfl
        · have x0 := cell_below hb O0.out
          have y0 := cell_below hb ((cell_of_row _ _ 10 _ _ _ HR.out.block).trans h10c)
          have HB := Lib.hid hb
          have HP := Lib.hid hp
          have HBB := Lib.hid hbb
          clear hb hp hbb
          by_cases hz : n10 = 0
          · have hzd : ((n10 : Int) != 0) = false := by rw [hz]; rfl
            have HZ := Lib.hid hz
            clear hz
            go_wp2_with (go_at_call 155; refine (Tryz.strings_Count_one s 10 _).mono ?_; rintro e w' ⟨rfl, rfl⟩; rw [← H10.out])
            go_roundw
            case rel => exact ⟨1, p, bb, by omega, rfl, rfl, rfl, by have h1 := HP.out; have h2 := HZ.out; simp only [part] at h1 ⊢; omega, HBB.out, HB.out⟩
            case measure => simp [intOf]
          · have hzd : ((n10 : Int) != 0) = true := by simpa using hz
            have hpb : p + n10 ≤ s.size := by rw [HP.out]; simp only [part]; omega
            have hp0 : p + n10 = part n10 n39 n92 1 := by rw [HP.out]; simp [part]
            have HP0 := Lib.hid hp0
            have hpos : 0 < n10 := by omega
            have HPOS := Lib.hid hpos
            have w1 : IntKind.i64.wrap ((n10 : Int) * 1) = (n10 : Int) := by rw [Int.mul_one]; exact IntWalk.i64_in _ (by omega)
            have w1' : IntKind.i64.wrap (n10 : Int) = (n10 : Int) := IntWalk.i64_in _ (by omega)
            have w2 : IntKind.i64.wrap ((s.size : Int) + (p : Int) + (n10 : Int)) = (s.size : Int) + (p : Int) + (n10 : Int) := IntWalk.i64_in _ (by omega)
            clear hz hp0 hpos
            go_wp2_with (go_at_call 155; refine (Tryz.strings_Count_one s 10 _).mono ?_; rintro e w' ⟨rfl, rfl⟩; rw [← H10.out])
            go_quiet (fail)
            clear w1 w1' w2
            go_wp2_with fail
            go_roundw
            case rel => exact ⟨1, p + n10, true, by omega, rfl, by simp [Int.add_assoc], rfl, HP0.out, by have := HPOS.out; simp; omega, HB.out.trans ⟨rfl, rfl, rfl, Nat.le_refl _, fun _ _ => rfl⟩⟩
            case measure => simp [intOf]
        · have x0 := cell_below hb O1.out
          have y0 := cell_below hb ((cell_of_row _ _ 39 _ _ _ HR.out.block).trans h39c)
          have HB := Lib.hid hb
          have HP := Lib.hid hp
          have HBB := Lib.hid hbb
          clear hb hp hbb
          by_cases hz : n39 = 0
          · have hzd : ((n39 : Int) != 0) = false := by rw [hz]; rfl
            have HZ := Lib.hid hz
            clear hz
            go_wp2_with (go_at_call 155; refine (Tryz.strings_Count_one s 39 _).mono ?_; rintro e w' ⟨rfl, rfl⟩; rw [← H39.out])
            go_roundw
            case rel => exact ⟨2, p, bb, by omega, rfl, rfl, rfl, by have h1 := HP.out; have h2 := HZ.out; simp only [part] at h1 ⊢; omega, HBB.out, HB.out⟩
            case measure => simp [intOf]
          · have hzd : ((n39 : Int) != 0) = true := by simpa using hz
            have hpb : p + n39 ≤ s.size := by rw [HP.out]; simp only [part]; omega
            have hp0 : p + n39 = part n10 n39 n92 2 := by rw [HP.out]; simp [part]
            have HP0 := Lib.hid hp0
            have hpos : 0 < n39 := by omega
            have HPOS := Lib.hid hpos
            have w1 : IntKind.i64.wrap ((n39 : Int) * 1) = (n39 : Int) := by rw [Int.mul_one]; exact IntWalk.i64_in _ (by omega)
            have w1' : IntKind.i64.wrap (n39 : Int) = (n39 : Int) := IntWalk.i64_in _ (by omega)
            have w2 : IntKind.i64.wrap ((s.size : Int) + (p : Int) + (n39 : Int)) = (s.size : Int) + (p : Int) + (n39 : Int) := IntWalk.i64_in _ (by omega)
            clear hz hp0 hpos
            go_wp2_with (go_at_call 155; refine (Tryz.strings_Count_one s 39 _).mono ?_; rintro e w' ⟨rfl, rfl⟩; rw [← H39.out])
            go_quiet (fail)
            clear w1 w1' w2
            go_wp2_with fail
            go_roundw
            case rel => exact ⟨2, p + n39, true, by omega, rfl, by simp [Int.add_assoc], rfl, HP0.out, by have := HPOS.out; simp; omega, HB.out.trans ⟨rfl, rfl, rfl, Nat.le_refl _, fun _ _ => rfl⟩⟩
            case measure => simp [intOf]
        · have x0 := cell_below hb O2.out
          have y0 := cell_below hb ((cell_of_row _ _ 92 _ _ _ HR.out.block).trans h92c)
          have HB := Lib.hid hb
          have HP := Lib.hid hp
          have HBB := Lib.hid hbb
          clear hb hp hbb
          by_cases hz : n92 = 0
          · have hzd : ((n92 : Int) != 0) = false := by rw [hz]; rfl
            have HZ := Lib.hid hz
            clear hz
            go_wp2_with (go_at_call 155; refine (Tryz.strings_Count_one s 92 _).mono ?_; rintro e w' ⟨rfl, rfl⟩; rw [← H92.out])
            go_roundw
            case rel => exact ⟨3, p, bb, by omega, rfl, rfl, rfl, by have h1 := HP.out; have h2 := HZ.out; simp only [part] at h1 ⊢; omega, HBB.out, HB.out⟩
            case measure => simp [intOf]
          · have hzd : ((n92 : Int) != 0) = true := by simpa using hz
            have hpb : p + n92 ≤ s.size := by rw [HP.out]; simp only [part]; omega
            have hp0 : p + n92 = part n10 n39 n92 3 := by rw [HP.out]; simp [part]
            have HP0 := Lib.hid hp0
            have hpos : 0 < n92 := by omega
            have HPOS := Lib.hid hpos
            have w1 : IntKind.i64.wrap ((n92 : Int) * 1) = (n92 : Int) := by rw [Int.mul_one]; exact IntWalk.i64_in _ (by omega)
            have w1' : IntKind.i64.wrap (n92 : Int) = (n92 : Int) := IntWalk.i64_in _ (by omega)
            have w2 : IntKind.i64.wrap ((s.size : Int) + (p : Int) + (n92 : Int)) = (s.size : Int) + (p : Int) + (n92 : Int) := IntWalk.i64_in _ (by omega)
            clear hz hp0 hpos
            go_wp2_with (go_at_call 155; refine (Tryz.strings_Count_one s 92 _).mono ?_; rintro e w' ⟨rfl, rfl⟩; rw [← H92.out])
            go_quiet (fail)
            clear w1 w1' w2
            go_wp2_with fail
            go_roundw
            case rel => exact ⟨3, p + n92, true, by omega, rfl, by simp [Int.add_assoc], rfl, HP0.out, by have := HPOS.out; simp; omega, HB.out.trans ⟨rfl, rfl, rfl, Nat.le_refl _, fun _ _ => rfl⟩⟩
            case measure => simp [intOf]
        · have HB := Lib.hid hb
          have HP := Lib.hid hp
          have HBB := Lib.hid hbb
          clear hb hp hbb
          go_wp2_with fail
          go_meet
          refine ⟨bb, ?_, rfl, ?_, HB.out⟩
          · have h1 := escL_length s.data.toList
            have h2 := cntS_split s.data.toList
            rw [← H10.out, ← H39.out, ← H92.out] at h2
            have hl : s.data.toList.length = s.size := by simp
            have h3 : p = n10 + n39 + n92 := HP.out
            rw [h1, hl, h2, h3]
            simp
          · have h2 := cntS_split s.data.toList
            rw [← H10.out, ← H39.out, ← H92.out] at h2
            have h3 : p = n10 + n39 + n92 := HP.out
            rw [HBB.out, h3, ← h2]
            cases h4 : s.data.toList.any special with
            | false => rw [cntS_zero.2 h4]; rfl
            | true =>
              have : cntS s.data.toList ≠ 0 := fun h => by rw [cntS_zero.1 h] at h4; cases h4
              simp; omega
    · have h24d : decide ((24 : Int) ≤ (s.size : Int)) = false := decide_eq_false (by omega)
      rw [h24d]
      have hsn := fun (w : World) (a : Option Addr) (n c n' c' : Nat) => run_neq_slice_nil_any (P := Tryz.prog) w 48 5 a n c n' c' Tryz.underlying48
      go_wp2_with fail
      go_loopw [5, 6, 10, 11] (fun n b i _ wr => ∃ (k p : Nat) (bb : Bool), k ≤ s.size ∧ i = .int .i64 k ∧ n = .int .i64 ((s.size : Int) + (p : Int)) ∧ b = .bool bb ∧ p = cntS (s.data.toList.take k) ∧ bb = decide (0 < p) ∧ Below w.heap.size w wr) (fun _ _ i _ _ => s.size - (intOf i).toNat)
      case atStart => exact ⟨0, 0, false, by omega, rfl, by simp, rfl, rfl, rfl, Below.refl _ _⟩
      case round =>
        obtain ⟨k, p, bb, hk, rfl, rfl, rfl, hp, hbb, hb⟩ := hrel
        have HB := Lib.hid hb
        have HP := Lib.hid hp
        have HBB := Lib.hid hbb
        have hpk : p ≤ k := by rw [hp]; exact cntS_take_le _ _
        clear hp hbb
        by_cases hlt : k < s.size
        · have hl : k < s.data.toList.length := by simpa using hlt
          have hbyte : s.data.toList[k] = (s[k]'hlt) := by simp [ByteArray.getElem_eq_getElem_data]
          have hcs := cntS_take_succ hl
          rw [hbyte] at hcs
          have hT := tab_at HR.out.tab (s[k]'hlt)
          have hcl := (s[k]'hlt).toNat_lt
          have hci : (((s[k]'hlt).toNat : Nat) : Int) < 256 := by omega
          cases hsp : special (s[k]'hlt) with
          | true =>
            obtain ⟨a, cap, D, m, x, y, h1, _⟩ := hT.1 hsp
            have y0 := cell_below hb ((cell_of_row _ _ _ _ _ _ HR.out.block).trans h1)
            rw [hsp, if_pos rfl] at hcs
            have HCS := Lib.hid hcs
            clear hb hcs hT hsp h1 hbyte hl
            go_wp2_with fail
            go_roundw
            case rel => exact ⟨k + 1, p + 1, true, by omega, by go_num, by simp [Int.add_assoc], rfl, by rw [HCS.out, HP.out], by simp, HB.out⟩
            case measure => simp [intOf]; omega
          | false =>
            have y0 := cell_below hb ((cell_of_row _ _ _ _ _ _ HR.out.block).trans (hT.2 hsp))
            rw [hsp, if_neg (by simp)] at hcs
            have HCS := Lib.hid hcs
            clear hb hcs hT hsp hbyte hl
            go_wp2_with fail
            go_roundw
            case rel => exact ⟨k + 1, p, bb, by omega, by go_num, rfl, rfl, by rw [HCS.out, HP.out]; rfl, HBB.out, HB.out⟩
            case measure => simp [intOf]; omega
        · have hkk : k = s.size := by omega
          have HKK := Lib.hid hkk
          clear hkk hb
          go_wp2_with fail
          go_meet
          have hl : s.data.toList.length = s.size := by simp
          have hpt : p = cntS s.data.toList := by
            rw [HP.out, HKK.out, ← hl, List.take_length]
          refine ⟨bb, ?_, rfl, ?_, HB.out⟩
          · rw [escL_length, hl, hpt]
            simp
          · rw [HBB.out, hpt]
            cases h4 : s.data.toList.any special with
            | false => rw [cntS_zero.2 h4]; rfl
            | true =>
              have : cntS s.data.toList ≠ 0 := fun h => by rw [cntS_zero.1 h] at h4; cases h4
              simp; omega
  case rest =>
    obtain ⟨b, rfl, rfl, hb, hbw⟩ := hcut
    have HBS := Lib.hid hb
    clear hb
    cases hbb : b with
    | false =>
      have he : escL s.data.toList = s.data.toList := escL_none (by rw [← HBS.out]; exact hbb)
      have HE := Lib.hid he
      clear he hbb
      go_wp2_with fail
      go_ret
      exact ⟨by rw [HE.out]; rfl, hbw⟩
    | true =>
      clear hbb
      obtain ⟨N, hN⟩ : ∃ N, N = (escL s.data.toList).length := ⟨_, rfl⟩
      have hNs : N ≤ 2199023255552 := by
        have h1 := escL_length s.data.toList
        have h2 := cntS_le s.data.toList
        have hl : s.data.toList.length = s.size := by simp
        omega
      have HN := Lib.hid hN
      rw [← hN]
      clear hN
      obtain ⟨i0, hi, hz0, hz1, hz2⟩ := info_parts infoByte
      have hmk := fun W => run_make (P := Tryz.prog) W 48 5 i0 (.int .u8 0) Tryz.underlying48 hi hz0 .i64 .i64 (N : Int) (N : Int) (by omega) (by omega) (by rw [hz2]; omega) (by omega)
      rw [hz1] at hmk
      have hsn := fun (w : World) (a : Option Addr) (n c n' c' : Nat) => run_neq_slice_nil_any (P := Tryz.prog) w 48 5 a n c n' c' Tryz.underlying48
      have HBW := Lib.hid hbw
      clear hbw
      go_wp2_with fail
      have hbl : (wc.alloc (.cells (madeCells #[Value.int IntKind.u8 0] N) 5)).heap[wc.heap.size]? = some (Obj.cells (bufL [] N).toArray 5 (0, 0)) := by
        rw [heap_alloc_new]
        congr 2
        rw [bufL_none, ← toList_madeCells_one]
      have hbB : Below w.heap.size w (wc.alloc (.cells (madeCells #[Value.int IntKind.u8 0] N) 5)) := HBW.out.alloc HBW.out.size _
      have hwb := HBW.out.size
      go_loopw [13, 14, 15] (fun j i _ wr => ∃ k p : Nat, k ≤ s.size ∧ i = .int .i64 k ∧ j = .int .i64 p ∧ p = (escL (s.data.toList.take k)).length ∧ wr.heap[wc.heap.size]? = some (Obj.cells (bufL (escL (s.data.toList.take k)) N).toArray 5 (0, 0)) ∧ Below w.heap.size w wr) (fun _ i _ _ => s.size - (intOf i).toNat)
      case atStart => exact ⟨0, 0, by omega, rfl, rfl, rfl, hbl, hbB⟩
      case round =>
        obtain ⟨k, p, hk, rfl, rfl, hp, hblk, hb⟩ := hrel
        clear hbl hbB hmk
        have HB := Lib.hid hb
        have HP := Lib.hid hp
        have HBL := Lib.hid hblk
        have hpN : p ≤ N := by rw [hp, HN.out]; exact escL_take_le _ _
        by_cases hlt : k < s.size
        · have hl : k < s.data.toList.length := by simpa using hlt
          have hbyte : s.data.toList[k] = (s[k]'hlt) := by simp [ByteArray.getElem_eq_getElem_data]
          have hes := escL_take_succ hl
          rw [hbyte] at hes
          have hle : (escL (s.data.toList.take (k + 1))).length ≤ N := by rw [HN.out]; exact escL_take_le _ _
          have hT := tab_at HR.out.tab (s[k]'hlt)
          have hcl := (s[k]'hlt).toNat_lt
          have hci : (((s[k]'hlt).toNat : Nat) : Int) < 256 := by omega
          cases hsp : special (s[k]'hlt) with
          | true =>
            obtain ⟨a, cap, D, m, x, y, h1, h2, h3, h4, h5⟩ := hT.1 hsp
            have y0 := cell_below hb ((cell_of_row _ _ _ _ _ _ HR.out.block).trans h1)
            have g0 : wr.cell? ⟨a, 0, none⟩ = some (.int .u8 (x.toNat : Int)) := cell_below hb ((cell_of_row _ _ 0 _ _ _ h2).trans h3)
            have g1 : wr.cell? ⟨a, 1, none⟩ = some (.int .u8 (y.toNat : Int)) := cell_below hb ((cell_of_row _ _ 1 _ _ _ h2).trans h4)
            have Y0 := Lib.hid ((cell_of_row w q _ _ _ _ HR.out.block).trans h1)
            rw [h5] at hes
            have hlN : p + 2 ≤ N := by rw [hes, List.length_append, ← hp] at hle; exact hle
            have hne : N ≠ p := by omega
            have hpi : (p : Int) ≤ (N : Int) := by omega
            have hp0 : (0 : Int) ≤ (p : Int) := by omega
            have HES := Lib.hid hes
            have G0 := Lib.hid g0
            have G1 := Lib.hid g1
            have w2 : IntKind.i64.wrap ((p : Int) + 2) = (p : Int) + 2 := IntWalk.i64_in _ (by omega)
            have HW2 := Lib.hid w2
            have HSP := Lib.hid (bufL_splice (pre := escL (s.data.toList.take k)) (news := [x, y]) (N := N) (by rw [← hp]; exact hlN))
            clear hes hT hsp hbyte hl hp hblk hle h1 h2 h3 h4 h5 g0 g1 w2
            go_wp2_with fail
            go_region_held3 (fun W => W.cell? ⟨q, (s[k]'hlt).toNat, none⟩ = some (.slice (some ⟨a, 0, none⟩) 2 cap) ∧ Below w.heap.size w W)
              ((go_split_ands; refine ⟨?_, ?_⟩; (focus (first | with_reducible assumption | (refine cell_below (w := w) ?_ Y0.out; (repeat (first | with_reducible assumption | with_reducible exact Below.refl _ _ | with_reducible apply Below.drew))))); (focus (repeat (first | with_reducible assumption | with_reducible exact Below.refl _ _ | with_reducible apply Below.drew)))))
              ((refine step_copy_splice (by rfl) (.tmp 105) (.tmp 111) 48 48 (by rfl) 5 Tryz.underlying48 sizeByte (some ⟨wc.heap.size, p, none⟩) (some ⟨a, 0, none⟩) (N - p) (N - p) 2 cap (by rfl) (by rfl) wc.heap.size p (bufL (escL (s.data.toList.take k)) N) 5 ?_ (bytesV [x, y]) ?_ ?_ ?_ ?_ w.heap.size w ?_ hwb ?_; exact HBL.out; (focus (show 2 = Nat.min 2 (N - p); exact (Nat.min_eq_left (by omega)).symm)); (focus (intro _; refine ⟨rfl, ⟨a, 0, none⟩, rfl, ?_⟩; intro j v hv; exact two_cells G0.out G1.out j v hv)); (focus (rw [bufL_length (by rw [← HP.out]; exact hpN)]; exact hlN)); (focus (intro v hv; exact bytesV_one hv)); (focus (repeat (first | with_reducible assumption | with_reducible exact Below.refl _ _ | with_reducible apply Below.drew))); intro W2 hg2 hb2; have HG2 := Lib.hid hg2; clear hg2))
            go_wp2_with fail
            go_roundw
            case rel =>
              refine ⟨k + 1, p + 2, by omega, by go_num, ?_, by rw [HES.out, List.length_append, ← HP.out]; rfl, ?_, by assumption⟩
              · rw [bytesV_length]
                show Value.int IntKind.i64 (IntKind.i64.wrap ((p : Int) + 2)) = _
                rw [HW2.out]
                rfl
              · rw [HES.out, ← HSP.out, ← HP.out]
                exact HG2.out
            case measure => simp [intOf]; omega
          | false =>
            have y0 := cell_below hb ((cell_of_row _ _ _ _ _ _ HR.out.block).trans (hT.2 hsp))
            rw [escB_plain hsp] at hes
            have hlN : p < N := by rw [hes, List.length_append, List.length_singleton, ← hp] at hle; omega
            have b0 : wr.cell? ⟨wc.heap.size, p, none⟩ = some (.int .u8 0) := by
              rw [cell_of_row _ _ p _ _ _ hblk, hp, List.getElem?_toArray, bufL, List.getElem?_append_right (by rw [bytesV_length]; exact Nat.le_refl _), bytesV_length, Nat.sub_self, List.getElem?_replicate, if_pos (by omega)]
            have b1 : wr.frozen? ⟨wc.heap.size, p, none⟩ = false := by simp [World.frozen?, hblk]
            have hpi : (p : Int) < (N : Int) := by omega
            have HES := Lib.hid hes
            have HNB := Lib.hid (show (wr.setCell ⟨wc.heap.size, p, none⟩ (.int .u8 ((s[k]'hlt).toNat : Int))).heap[wc.heap.size]? = some (Obj.cells (bufL (escL (s.data.toList.take (k + 1))) N).toArray 5 (0, 0)) from by
              rw [setb_block _ hblk, hes]
              congr 2
              have := bufL_set (N := N) (s[k]'hlt) (by rw [← hp]; exact hlN : (escL (s.data.toList.take k)).length < N)
              rw [← hp] at this
              rw [← this]
              simp)
            clear hb hes hT hsp hbyte hl hp hblk hle
            go_wp2_with fail
            go_roundw
            case rel => exact ⟨k + 1, p + 1, by omega, by go_num, by go_num, by rw [HES.out, List.length_append, ← HP.out]; rfl, HNB.out, HB.out.setCell hwb _⟩
            case measure => simp [intOf]; omega
        · have hkk : k = s.size := by omega
          have HKK := Lib.hid hkk
          clear hkk hb
          have hall : s.data.toList.take k = s.data.toList := by
            have hl : s.data.toList.length = s.size := by simp
            rw [HKK.out, ← hl, List.take_length]
          rw [hall, HN.out, bufL_whole] at hblk
          have hcv := Lib.run_convert_whole (P := Tryz.prog) wr 48 5 9 Tryz.underlying48 Tryz.underlying5 Tryz.underlying9 wc.heap.size 0 ⟨(escL s.data.toList).toArray⟩ (fun i hi => by
            have hi' : i < (escL s.data.toList).length := hi
            rw [Nat.zero_add, cell_of_row _ _ i _ _ _ hblk, List.getElem?_toArray, bytesV, List.getElem?_map, List.getElem?_eq_getElem hi']
            rfl) N
          have hsz2 : (⟨(escL s.data.toList).toArray⟩ : ByteArray).size = N := by rw [HN.out]; exact List.size_toArray
          rw [hsz2] at hcv
          clear hblk hp hsz2
          go_wp2_with fail
          go_ret
          exact ⟨rfl, HB.out⟩
end Go.Proofs.YtdfjhhhbkgelaaaGreatDoor.V
