/- lambrequinlaw06.ParseMost. -/
import Derived.Test.YthhfjimhfehimaaDoorShow6
namespace Go.Proofs.YthhfjimhfehimaaDoor.V
set_option linter.unusedVariables false
set_option linter.unusedSimpArgs false
open Go.RowKit

def moreA (t : Nat) : List UInt8 := (List.replicate t [44, 97]).flatten
def sA (t : Nat) : ByteArray := bs ([112, 40, 97] ++ moreA t)
def sB (t : Nat) : ByteArray := bs ([112, 58, 45, 97] ++ moreA t)
theorem bs_app (a b : List UInt8) : bs a ++ bs b = bs (a ++ b) := by
  apply ByteArray.ext
  simp [bs, ByteArray.data_append]
theorem moreA_succ (t : Nat) : moreA (t + 1) = moreA t ++ [44, 97] := by
  unfold moreA
  rw [List.replicate_succ', List.flatten_append]
  simp
theorem sA_succ (t : Nat) : sA t ++ ⟨#[44, 97]⟩ = sA (t + 1) := by
  unfold sA
  rw [moreA_succ, show (⟨#[44, 97]⟩ : ByteArray) = bs [44, 97] from rfl, bs_app, List.append_assoc]
theorem sB_succ (t : Nat) : sB t ++ ⟨#[44, 97]⟩ = sB (t + 1) := by
  unfold sB
  rw [moreA_succ, show (⟨#[44, 97]⟩ : ByteArray) = bs [44, 97] from rfl, bs_app, List.append_assoc]
theorem moreA_len (t : Nat) : (moreA t).length = 2 * t := by
  induction t with
  | zero => rfl
  | succ t ih => rw [moreA_succ, List.length_append, ih]; simp; omega
theorem sA_size (t : Nat) : (sA t).size = 3 + 2 * t := by
  have := moreA_len t
  simp [sA, bs, ByteArray.size, this]
  omega
theorem sB_size (t : Nat) : (sB t).size = 4 + 2 * t := by
  have := moreA_len t
  simp [sB, bs, ByteArray.size, this]
  omega
def symA : TermL := ⟨false, [], true, [97], 0⟩
theorem most_a : ∀ t, t < 6 → atomL ([112, 40, 97] ++ moreA t ++ [41]) = .ok ⟨[112], List.replicate (t + 1) symA⟩ := by
  intro t ht
  match t, ht with
  | 0, _ => exact (show atomL ([112, 40, 97] ++ moreA 0 ++ [41]) = .ok ⟨[112], List.replicate (0 + 1) symA⟩ from by kernel_rfl)
  | 1, _ => exact (show atomL ([112, 40, 97] ++ moreA 1 ++ [41]) = .ok ⟨[112], List.replicate (1 + 1) symA⟩ from by kernel_rfl)
  | 2, _ => exact (show atomL ([112, 40, 97] ++ moreA 2 ++ [41]) = .ok ⟨[112], List.replicate (2 + 1) symA⟩ from by kernel_rfl)
  | 3, _ => exact (show atomL ([112, 40, 97] ++ moreA 3 ++ [41]) = .ok ⟨[112], List.replicate (3 + 1) symA⟩ from by kernel_rfl)
  | 4, _ => exact (show atomL ([112, 40, 97] ++ moreA 4 ++ [41]) = .ok ⟨[112], List.replicate (4 + 1) symA⟩ from by kernel_rfl)
  | 5, _ => exact (show atomL ([112, 40, 97] ++ moreA 5 ++ [41]) = .ok ⟨[112], List.replicate (5 + 1) symA⟩ from by kernel_rfl)
theorem most_a2 : ∀ t, t < 9 → 6 ≤ t → atomL ([112, 40, 97] ++ moreA t ++ [41]) = .bad 14 4 := by
  intro t ht h
  match t, ht with
  | 6, _ => exact (show atomL ([112, 40, 97] ++ moreA 6 ++ [41]) = .bad 14 4 from by kernel_rfl)
  | 7, _ => exact (show atomL ([112, 40, 97] ++ moreA 7 ++ [41]) = .bad 14 4 from by kernel_rfl)
  | 8, _ => exact (show atomL ([112, 40, 97] ++ moreA 8 ++ [41]) = .bad 14 4 from by kernel_rfl)
def litA : LitL := ⟨1, ⟨[97], []⟩, [], term0, term0⟩
theorem most_b : ∀ t, t < 8 → parseL ([112, 58, 45, 97] ++ moreA t ++ [46]) = .ok ([], [⟨⟨[112], []⟩, List.replicate (t + 1) litA⟩]) := by
  intro t ht
  match t, ht with
  | 0, _ => exact (show parseL ([112, 58, 45, 97] ++ moreA 0 ++ [46]) = .ok ([], [⟨⟨[112], []⟩, List.replicate (0 + 1) litA⟩]) from by kernel_rfl)
  | 1, _ => exact (show parseL ([112, 58, 45, 97] ++ moreA 1 ++ [46]) = .ok ([], [⟨⟨[112], []⟩, List.replicate (1 + 1) litA⟩]) from by kernel_rfl)
  | 2, _ => exact (show parseL ([112, 58, 45, 97] ++ moreA 2 ++ [46]) = .ok ([], [⟨⟨[112], []⟩, List.replicate (2 + 1) litA⟩]) from by kernel_rfl)
  | 3, _ => exact (show parseL ([112, 58, 45, 97] ++ moreA 3 ++ [46]) = .ok ([], [⟨⟨[112], []⟩, List.replicate (3 + 1) litA⟩]) from by kernel_rfl)
  | 4, _ => exact (show parseL ([112, 58, 45, 97] ++ moreA 4 ++ [46]) = .ok ([], [⟨⟨[112], []⟩, List.replicate (4 + 1) litA⟩]) from by kernel_rfl)
  | 5, _ => exact (show parseL ([112, 58, 45, 97] ++ moreA 5 ++ [46]) = .ok ([], [⟨⟨[112], []⟩, List.replicate (5 + 1) litA⟩]) from by kernel_rfl)
  | 6, _ => exact (show parseL ([112, 58, 45, 97] ++ moreA 6 ++ [46]) = .ok ([], [⟨⟨[112], []⟩, List.replicate (6 + 1) litA⟩]) from by kernel_rfl)
  | 7, _ => exact (show parseL ([112, 58, 45, 97] ++ moreA 7 ++ [46]) = .ok ([], [⟨⟨[112], []⟩, List.replicate (7 + 1) litA⟩]) from by kernel_rfl)
theorem most_b2 : ∀ t, t < 12 → 8 ≤ t → parseL ([112, 58, 45, 97] ++ moreA t ++ [46]) = .bad 19 4 := by
  intro t ht h
  match t, ht with
  | 8, _ => exact (show parseL ([112, 58, 45, 97] ++ moreA 8 ++ [46]) = .bad 19 4 from by kernel_rfl)
  | 9, _ => exact (show parseL ([112, 58, 45, 97] ++ moreA 9 ++ [46]) = .bad 19 4 from by kernel_rfl)
  | 10, _ => exact (show parseL ([112, 58, 45, 97] ++ moreA 10 ++ [46]) = .bad 19 4 from by kernel_rfl)
  | 11, _ => exact (show parseL ([112, 58, 45, 97] ++ moreA 11 ++ [46]) = .bad 19 4 from by kernel_rfl)
/-- Atom and Parse of these texts. -/
theorem atomA_ok (t : Nat) (ht : t < 6) (w : World) (hE : ErrW w) : Calls Tryd.prog 10 #[.string (sA t ++ ⟨#[41]⟩)] w fun e w' => Below w.heap.size w w' ∧ ∃ p A n c, e = .returned (.tuple #[.agg #[.string p, .slice A n c], .int .i64 0, .int .i64 0]) := by
  have hsz : (sA t ++ ⟨#[41]⟩).size ≤ 9223372036854775807 := by rw [ByteArray.size_append, sA_size]; have : (⟨#[41]⟩ : ByteArray).size = 1 := rfl; omega
  refine (patom_calls _ w hsz hE).mono ?_
  rintro e w' ⟨hb, h⟩
  rw [show (sA t ++ ⟨#[41]⟩).data.toList = [112, 40, 97] ++ moreA t ++ [41] by rw [show (⟨#[41]⟩ : ByteArray) = bs [41] from rfl]; unfold sA; rw [bs_app]; rfl, most_a t ht] at h
  obtain ⟨v, rfl, ht⟩ := h
  obtain ⟨A, c, rfl⟩ := o_slice ht
  exact ⟨hb, _, _, _, _, rfl⟩
theorem atomA_bad (t : Nat) (ht : t < 9) (h6 : 6 ≤ t) (w : World) (hE : ErrW w) : Calls Tryd.prog 10 #[.string (sA t ++ ⟨#[41]⟩)] w fun e w' => Below w.heap.size w w' ∧ e = .returned (.tuple #[.agg #[.string ⟨#[]⟩, .slice none 0 0], .int .i64 14, .int .i64 4]) := by
  have hsz : (sA t ++ ⟨#[41]⟩).size ≤ 9223372036854775807 := by rw [ByteArray.size_append, sA_size]; have : (⟨#[41]⟩ : ByteArray).size = 1 := rfl; omega
  refine (patom_calls _ w hsz hE).mono ?_
  rintro e w' ⟨hb, h⟩
  rw [show (sA t ++ ⟨#[41]⟩).data.toList = [112, 40, 97] ++ moreA t ++ [41] by rw [show (⟨#[41]⟩ : ByteArray) = bs [41] from rfl]; unfold sA; rw [bs_app]; rfl, most_a2 t ht h6] at h
  exact ⟨hb, h⟩
theorem parseB_ok (t : Nat) (ht : t < 8) (w : World) (hE : ErrW w) : Calls Tryd.prog 7 #[.string (sB t ++ ⟨#[46]⟩)] w fun e w' => Below w.heap.size w w' ∧ ∃ Ad cd gr cr Ab cb, e = .returned (.tuple #[.agg #[.slice Ad 0 cd, .slice (some ⟨gr, 0, none⟩) 1 cr], .int .i64 0, .int .i64 0]) ∧ w'.cell? ⟨gr, 2, none⟩ = some (.slice Ab (t + 1) cb) := by
  have hsz : (sB t ++ ⟨#[46]⟩).size ≤ 9223372036854775807 := by rw [ByteArray.size_append, sB_size]; have : (⟨#[46]⟩ : ByteArray).size = 1 := rfl; omega
  refine (parse_calls _ w hsz hE).mono ?_
  rintro e w' ⟨hb, h⟩
  rw [show (sB t ++ ⟨#[46]⟩).data.toList = [112, 58, 45, 97] ++ moreA t ++ [46] by rw [show (⟨#[46]⟩ : ByteArray) = bs [46] from rfl]; unfold sB; rw [bs_app]; rfl, most_b t ht] at h
  obtain ⟨vd, vr, rfl, hd, ⟨qs, hq, ho, hqs⟩, _, _⟩ := h
  obtain ⟨Ad, cd, rfl⟩ := o_slice hd
  obtain ⟨Ar, cr, rfl⟩ := o_slice ho
  match qs, hq with
  | [(q, va, vb)], hq =>
    simp only [List.map_cons, List.map_nil, List.cons.injEq, and_true] at hq
    subst hq
    obtain ⟨gr, rfl, hcr⟩ := o_at ho (by simp)
    obtain ⟨_, ps, hp, hop, _⟩ := hqs _ (List.mem_singleton.2 rfl)
    have hpl : ps.length = t + 1 := by rw [← List.length_map (f := (·.1)), hp]; simp
    rw [hpl] at hop
    obtain ⟨Ab, cb, rfl⟩ := o_slice hop
    exact ⟨hb, Ad, cd, gr, cr, Ab, cb, rfl, hcr 2 _ rfl⟩
theorem parseB_bad (t : Nat) (ht : t < 12) (h8 : 8 ≤ t) (w : World) (hE : ErrW w) : Calls Tryd.prog 7 #[.string (sB t ++ ⟨#[46]⟩)] w fun e w' => Below w.heap.size w w' ∧ e = .returned (.tuple #[.agg #[.slice none 0 0, .slice none 0 0], .int .i64 19, .int .i64 4]) := by
  have hsz : (sB t ++ ⟨#[46]⟩).size ≤ 9223372036854775807 := by rw [ByteArray.size_append, sB_size]; have : (⟨#[46]⟩ : ByteArray).size = 1 := rfl; omega
  refine (parse_calls _ w hsz hE).mono ?_
  rintro e w' ⟨hb, h⟩
  rw [show (sB t ++ ⟨#[46]⟩).data.toList = [112, 58, 45, 97] ++ moreA t ++ [46] by rw [show (⟨#[46]⟩ : ByteArray) = bs [46] from rfl]; unfold sB; rw [bs_app]; rfl, most_b2 t ht h8] at h
  exact ⟨hb, h⟩

set_option maxRecDepth 100000 in
set_option maxHeartbeats 16000000 in
theorem most_calls (n m : Int) (w : World) (hn0 : 0 ≤ n) (hn1 : n ≤ 255) (hm0 : 0 ≤ m) (hm1 : m ≤ 255) (hE : ErrW w) :
    Calls Tryd.prog 5 #[.int .u8 n, .int .u8 m] w fun e w' => e = .returned (.bool true) ∧ Below w.heap.size w w' := by
  obtain ⟨a, ha⟩ : ∃ a : Nat, n.tmod 9 = (a : Int) := ⟨(n.tmod 9).toNat, by have := Int.tmod_nonneg 9 hn0; omega⟩
  obtain ⟨b, hb⟩ : ∃ b : Nat, m.tmod 12 = (b : Int) := ⟨(m.tmod 12).toNat, by have := Int.tmod_nonneg 12 hm0; omega⟩
  have ha9 : a < 9 := by have := Int.tmod_lt_of_pos n (show (0 : Int) < 9 by decide); omega
  have hb12 : b < 12 := by have := Int.tmod_lt_of_pos m (show (0 : Int) < 12 by decide); omega
  have HE := Lib.hid hE
  have HA9 := Lib.hid ha9
  have HB12 := Lib.hid hb12
  clear hE
  go_enter Tryd.func5, Tryd.ntmps5
  go_wp2_with (go_at_call 6; ((with_reducible refine (shown6_calls _ HE.out).mono ?_); rintro e w1 ⟨rfl, hb1⟩; have HB1 := Lib.hid hb1; have HE1 := Lib.hid (HE.out.below hb1); clear hb1))
  -- THE LOOPS
  go_loopw [7, 8] (fun v i wr => ∃ t : Nat, t ≤ a ∧ i = .int .i64 ((t : Int) + 1) ∧ v = .string (sA t) ∧ wr = w1) (fun _ i _ => a + 2 - (intOf i).toNat)
  case atStart => exact ⟨0, Nat.zero_le _, rfl, rfl, rfl⟩
  case round =>
    obtain ⟨t, ht, rfl, rfl, rfl⟩ := hrel
    by_cases hlt : t < a
    · have hd : decide ((t : Int) + 1 < 1 + (a : Int)) = true := decide_eq_true (by omega)
      have hadd : ∀ w, (Op.stringOp .add (sA t) ⟨#[44, 97]⟩).run Tryd.prog w = .ok (.string (sA (t + 1))) w := fun w => by rw [← sA_succ]; exact run_string_add_sum w _ _ (by rw [sA_size]; have : (⟨#[44, 97]⟩ : ByteArray).size = 2 := rfl; omega)
      go_wp2_with fail
      go_roundw
      case rel => exact ⟨t + 1, hlt, by simp, rfl, by trivial⟩
      case measure => simp [intOf]; omega
    · have hteq : t = a := by omega
      subst hteq
      have hd : decide ((t : Int) + 1 < 1 + (t : Int)) = false := decide_eq_false (by omega)
      have hadd : ∀ w, (Op.stringOp .add (sA t) ⟨#[41]⟩).run Tryd.prog w = .ok (.string (sA t ++ ⟨#[41]⟩)) w := fun w => run_string_add_sum w _ _ (by rw [sA_size]; have : (⟨#[41]⟩ : ByteArray).size = 1 := rfl; omega)
      clear hlt ht
      by_cases h6 : t < 6
      · have hk6 : decide ((1 : Int) + (t : Int) ≤ 6) = true := decide_eq_true (by omega)
        go_wp2_with (go_at_call 10; ((with_reducible refine (atomA_ok t h6 _ HE1.out).mono ?_); rintro e w2 ⟨hb2, p, A, n2, c, rfl⟩; have HB2 := Lib.hid (HB1.out.trans (hb2.mono HB1.out.size)); have HE2 := Lib.hid ((HE1.out.below hb2).below ((Below.refl w2.heap.size w2).alloc (Nat.le_refl _) (.cells #[.string p, .slice A n2 c] 33))); clear hb2))
        go_loopw [13, 14] (fun v i wr => ∃ t : Nat, t ≤ b ∧ i = .int .i64 ((t : Int) + 1) ∧ v = .string (sB t) ∧ wr = (w2.alloc (.cells #[.string p, .slice A n2 c] 33))) (fun _ i _ => b + 2 - (intOf i).toNat)
        case atStart => exact ⟨0, Nat.zero_le _, rfl, rfl, rfl⟩
        case round =>
          obtain ⟨t, ht, rfl, rfl, rfl⟩ := hrel
          by_cases hlt : t < b
          · have hd : decide ((t : Int) + 1 < 1 + (b : Int)) = true := decide_eq_true (by omega)
            have hadd : ∀ w, (Op.stringOp .add (sB t) ⟨#[44, 97]⟩).run Tryd.prog w = .ok (.string (sB (t + 1))) w := fun w => by rw [← sB_succ]; exact run_string_add_sum w _ _ (by rw [sB_size]; have : (⟨#[44, 97]⟩ : ByteArray).size = 2 := rfl; omega)
            go_wp2_with fail
            go_roundw
            case rel => exact ⟨t + 1, hlt, by simp, rfl, by trivial⟩
            case measure => simp [intOf]; omega
          · have hteq : t = b := by omega
            subst hteq
            have hd : decide ((t : Int) + 1 < 1 + (t : Int)) = false := decide_eq_false (by omega)
            have hadd : ∀ w, (Op.stringOp .add (sB t) ⟨#[46]⟩).run Tryd.prog w = .ok (.string (sB t ++ ⟨#[46]⟩)) w := fun w => run_string_add_sum w _ _ (by rw [sB_size]; have : (⟨#[46]⟩ : ByteArray).size = 1 := rfl; omega)
            clear hlt ht
            by_cases h8 : t < 8
            · have hk8 : decide ((1 : Int) + (t : Int) ≤ 8) = true := decide_eq_true (by omega)
              have hq : (((t : Int) + 1) == (1 + (t : Int))) = true := by rw [Int.add_comm]; simp
              go_wp2_with (go_at_call 7; ((with_reducible refine (parseB_ok t h8 _ HE2.out).mono ?_); rintro e w3 ⟨hb3, Ad, cd, gr, cr, Ab, cb, rfl, hc3⟩; have g3 := fun o => cell_below ((Below.refl w3.heap.size w3).alloc (Nat.le_refl _) o) hc3; have HB3 := Lib.hid (((HB2.out.alloc HB2.out.size _)).trans (hb3.mono (by have := HB2.out.size; simp; omega))); clear hb3 hc3))
              go_ret
              exact ⟨rfl, HB3.out.alloc HB3.out.size _⟩
            · have hk8 : decide ((1 : Int) + (t : Int) ≤ 8) = false := decide_eq_false (by omega)
              go_wp2_with (go_at_call 7; ((with_reducible refine (parseB_bad t HB12.out (by omega) _ HE2.out).mono ?_); rintro e w3 ⟨hb3, rfl⟩; have HB3 := Lib.hid (((HB2.out.alloc HB2.out.size _)).trans (hb3.mono (by have := HB2.out.size; simp; omega))); clear hb3))
              go_ret
              exact ⟨rfl, HB3.out.alloc HB3.out.size _⟩
      · have hk6 : decide ((1 : Int) + (t : Int) ≤ 6) = false := decide_eq_false (by omega)
        go_wp2_with (go_at_call 10; ((with_reducible refine (atomA_bad t HA9.out (by omega) _ HE1.out).mono ?_); rintro e w2 ⟨hb2, rfl⟩; have HB2 := Lib.hid (HB1.out.trans (hb2.mono HB1.out.size)); have HE2 := Lib.hid ((HE1.out.below hb2).below ((Below.refl w2.heap.size w2).alloc (Nat.le_refl _) (.cells #[.string ⟨#[]⟩, .slice none 0 0] 33))); clear hb2))
        go_loopw [13, 14] (fun v i wr => ∃ t : Nat, t ≤ b ∧ i = .int .i64 ((t : Int) + 1) ∧ v = .string (sB t) ∧ wr = (w2.alloc (.cells #[.string ⟨#[]⟩, .slice none 0 0] 33))) (fun _ i _ => b + 2 - (intOf i).toNat)
        case atStart => exact ⟨0, Nat.zero_le _, rfl, rfl, rfl⟩
        case round =>
          obtain ⟨t, ht, rfl, rfl, rfl⟩ := hrel
          by_cases hlt : t < b
          · have hd : decide ((t : Int) + 1 < 1 + (b : Int)) = true := decide_eq_true (by omega)
            have hadd : ∀ w, (Op.stringOp .add (sB t) ⟨#[44, 97]⟩).run Tryd.prog w = .ok (.string (sB (t + 1))) w := fun w => by rw [← sB_succ]; exact run_string_add_sum w _ _ (by rw [sB_size]; have : (⟨#[44, 97]⟩ : ByteArray).size = 2 := rfl; omega)
            go_wp2_with fail
            go_roundw
            case rel => exact ⟨t + 1, hlt, by simp, rfl, by trivial⟩
            case measure => simp [intOf]; omega
          · have hteq : t = b := by omega
            subst hteq
            have hd : decide ((t : Int) + 1 < 1 + (t : Int)) = false := decide_eq_false (by omega)
            have hadd : ∀ w, (Op.stringOp .add (sB t) ⟨#[46]⟩).run Tryd.prog w = .ok (.string (sB t ++ ⟨#[46]⟩)) w := fun w => run_string_add_sum w _ _ (by rw [sB_size]; have : (⟨#[46]⟩ : ByteArray).size = 1 := rfl; omega)
            clear hlt ht
            by_cases h8 : t < 8
            · have hk8 : decide ((1 : Int) + (t : Int) ≤ 8) = true := decide_eq_true (by omega)
              have hq : (((t : Int) + 1) == (1 + (t : Int))) = true := by rw [Int.add_comm]; simp
              go_wp2_with (go_at_call 7; ((with_reducible refine (parseB_ok t h8 _ HE2.out).mono ?_); rintro e w3 ⟨hb3, Ad, cd, gr, cr, Ab, cb, rfl, hc3⟩; have g3 := fun o => cell_below ((Below.refl w3.heap.size w3).alloc (Nat.le_refl _) o) hc3; have HB3 := Lib.hid (((HB2.out.alloc HB2.out.size _)).trans (hb3.mono (by have := HB2.out.size; simp; omega))); clear hb3 hc3))
              go_ret
              exact ⟨rfl, HB3.out.alloc HB3.out.size _⟩
            · have hk8 : decide ((1 : Int) + (t : Int) ≤ 8) = false := decide_eq_false (by omega)
              go_wp2_with (go_at_call 7; ((with_reducible refine (parseB_bad t HB12.out (by omega) _ HE2.out).mono ?_); rintro e w3 ⟨hb3, rfl⟩; have HB3 := Lib.hid (((HB2.out.alloc HB2.out.size _)).trans (hb3.mono (by have := HB2.out.size; simp; omega))); clear hb3))
              go_ret
              exact ⟨rfl, HB3.out.alloc HB3.out.size _⟩
end Go.Proofs.YthhfjimhfehimaaDoor.V
