/- The document's one: the token at a place. (printed by gen_rone.py) -/
import Derived.Test.YtdfjhhhbkgelaaaGreatDoorR5n
namespace Go.Proofs.YtdfjhhhbkgelaaaGreatDoor.V
set_option linter.unusedVariables false
set_option linter.unusedSimpArgs false
open Go.RowKit

theorem bs_of {x : ByteArray} {l : List UInt8} (h : x.data.toList = l) : bs l = x := by
  rw [← h]
  unfold bs
  cases x
  simp
theorem ext_list (s : ByteArray) (a n : Nat) : (s.extract a (a + n)).data.toList = (s.data.toList.drop a).take n := by
  simp only [ByteArray.data_extract, Array.toList_extract, List.extract]
  rw [show a + n - a = n by omega]
theorem ext_one {s : ByteArray} {a : Nat} (h : a < s.size) : s.extract a (a + 1) = bs [s[a]] := (bs_of (by rw [ext_list, drop_at h]; rfl)).symm
theorem ext_two {s : ByteArray} {a : Nat} (h : a + 1 < s.size) : s.extract a (a + 2) = bs [s[a], s[a + 1]] := (bs_of (by rw [ext_list, drop_at (show a < s.size by omega), drop_at h]; rfl)).symm
theorem gotV_form (N : Nat) (g : Got) : ∃ v0 v1 v2 v3 v4 v5 v6, gotV N g = .agg #[.int .i64 v0, .string v1, .int .i64 v2, .bool v3, .int .i64 v4, .int .i64 v5, .int .i64 v6] := by
  cases g with
  | bad e => exact ⟨_, _, _, _, _, _, _, rfl⟩
  | tok t r => exact ⟨_, _, _, _, _, _, _, rfl⟩
theorem oneL_small {c : UInt8} {t : List UInt8} (h : ofB sml c = true) : oneL c t = namedL 1 (c :: t) := by rw [oneL, if_pos h]
theorem oneL_big {c : UInt8} {t : List UInt8} (h0 : ofB sml c = false) (h : ofB bgI c = true) : oneL c t = namedL 2 (c :: t) := by rw [oneL, if_neg (by simp [h0]), if_pos h]
theorem oneL_fig {c : UInt8} {t : List UInt8} (h0 : ofB sml c = false) (h1 : ofB bgI c = false) (h : ofB figI c = true) : oneL c t = numL c t := by rw [oneL, if_neg (by simp [h0]), if_neg (by simp [h1]), if_pos (by rw [h]; rfl)]
theorem oneL_low {d : UInt8} {u : List UInt8} (h : ofB figI d = true) : oneL 45 (d :: u) = numL 45 (d :: u) := by rw [oneL, if_neg (by decide), if_neg (by decide), if_pos (by rw [List.headD_cons, h]; rfl)]
theorem oneL_low_no {d : UInt8} {u : List UInt8} (h : ofB figI d = false) : oneL 45 (d :: u) = .bad 2 := by rw [oneL, if_neg (by decide), if_neg (by decide), if_neg (by rw [List.headD_cons, h]; simp [ofB, figI]), if_neg (by decide)]; rfl
theorem oneL_low_end : oneL 45 [] = .bad 2 := rfl
theorem oneL_quot (t : List UInt8) : oneL 39 t = qres (quotL t) := by rw [oneL, if_neg (by decide), if_neg (by decide), if_neg (by simp [ofB, figI]), if_pos (by decide)]
theorem oneL_markc {c : UInt8} {t : List UInt8} (h0 : ofB sml c = false) (h1 : ofB bgI c = false) (h2 : ofB figI c = false) (h3 : (c == 45) = false) (h4 : (c == 39) = false) : oneL c t = markL (c :: t) := by
  rw [oneL, if_neg (by simp [h0]), if_neg (by simp [h1]), if_neg (by simp [h2, h3]), if_neg (by simp [h4])]
theorem markL_no {c : UInt8} {t : List UInt8} (h1 : (c == 58) = false) (h2 : (c == 60) = false) (h3 : (c == 62) = false) (h4 : (c == 33) = false) (h5 : markOne c = false) : markL (c :: t) = .bad 2 := by
  have e : ∀ x : UInt8, ((x == c) : Bool) = (c == x) := fun x => Bool.beq_comm
  unfold markL
  rw [if_neg, if_neg]
  · simp [h5]
  · simp [markTwo, List.isPrefixOf, e, h1, h2, h3, h4]
theorem markL_two (a d : UInt8) (u : List UInt8) (h : markTwo (a :: d :: u) = true) : markL (a :: d :: u) = .tok ⟨4, [a, d], 0, false⟩ u := by
  unfold markL
  rw [if_pos h]
  rfl
theorem markL_one (a : UInt8) (t : List UInt8) (h : markTwo (a :: t) = false) (h1 : markOne a = true) : markL (a :: t) = .tok ⟨4, [a], 0, false⟩ t := by
  unfold markL
  rw [if_neg (by simp [h]), if_pos (show markOne ((a :: t).headD 0) = true from h1)]
  rfl
theorem markL_none (a : UInt8) (t : List UInt8) (h : markTwo (a :: t) = false) (h1 : markOne a = false) : markL (a :: t) = .bad 2 := by
  unfold markL
  rw [if_neg (by simp [h]), if_neg (by rw [show (a :: t).headD 0 = a from rfl, h1]; decide)]
theorem byteV (c : UInt8) (n : Nat) (h : n < 256) (e : ((c.toNat : Int) == (n : Int)) = true) : c = UInt8.ofNat n := beq_iff_eq.1 ((byte_eq c n h).symm.trans e)
end Go.Proofs.YtdfjhhhbkgelaaaGreatDoor.V
