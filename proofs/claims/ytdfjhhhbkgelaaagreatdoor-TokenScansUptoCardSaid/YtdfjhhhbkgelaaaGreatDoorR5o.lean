/- The document's one: the token at a place. (printed by gen_rone.py) -/
import Derived.Test.YtdfjhhhbkgelaaaGreatDoorR5o0
import Derived.Test.YtdfjhhhbkgelaaaGreatDoorR5o1
import Derived.Test.YtdfjhhhbkgelaaaGreatDoorR5o2
import Derived.Test.YtdfjhhhbkgelaaaGreatDoorR5o3
import Derived.Test.YtdfjhhhbkgelaaaGreatDoorR5o4
import Derived.Test.YtdfjhhhbkgelaaaGreatDoorR5o5
namespace Go.Proofs.YtdfjhhhbkgelaaaGreatDoor.V
set_option linter.unusedVariables false
set_option linter.unusedSimpArgs false
open Go.RowKit

theorem rone_calls (s : ByteArray) (a : Nat) (w : World) (ha : a < s.size) (hs : s.size ≤ 65536) :
    Calls Tryz.prog 19 #[.string s, .int .i64 (a : Int)] w fun e w' => Below w.heap.size w w' ∧ e = .returned (gotV s.size (oneL (s[a]'ha) (s.data.toList.drop (a + 1)))) := by
  by_cases hn : a + 1 < s.size
  · cases hsm : sml ((s[a]'ha).toNat : Int) with
    | true => exact rone_small_y s a w ha hs hn hsm
    | false =>
      cases hbg : bgI ((s[a]'ha).toNat : Int) with
      | true => exact rone_big_y s a w ha hs hn hsm hbg
      | false =>
        cases hfg : figI ((s[a]'ha).toNat : Int) with
        | true => exact rone_fig_y s a w ha hs hn hsm hbg hfg
        | false =>
          cases e45 : (((s[a]'ha).toNat : Int) == 45) with
          | true =>
            have hc : (s[a]'ha) = 45 := byteN (d := 45) e45 (by decide)
            cases hfn : figI ((s[a + 1]'hn).toNat : Int) with
            | true => exact rone_low_y s a w ha hs hn hc hfn
            | false => exact rone_lowno_y s a w ha hs hn hc hfn
          | false =>
            cases e39 : (((s[a]'ha).toNat : Int) == 39) with
            | true =>
              have hc : (s[a]'ha) = 39 := byteN (d := 39) e39 (by decide)
              exact rone_quot_y s a w ha hs hn hc
            | false =>
              cases e58 : (((s[a]'ha).toNat : Int) == 58) with
              | true =>
                have hc : (s[a]'ha) = 58 := byteN (d := 58) e58 (by decide)
                cases hnx : (((s[a + 1]'hn).toNat : Int) == 45) with
                | true => exact rone_58two_y s a w ha hs hn hc (byteN (d := 45) hnx (by decide))
                | false => exact rone_58one_y s a w ha hs hn hc hnx
              | false =>
                cases e60 : (((s[a]'ha).toNat : Int) == 60) with
                | true =>
                  have hc : (s[a]'ha) = 60 := byteN (d := 60) e60 (by decide)
                  cases hnx : (((s[a + 1]'hn).toNat : Int) == 61) with
                  | true => exact rone_60two_y s a w ha hs hn hc (byteN (d := 61) hnx (by decide))
                  | false => exact rone_60one_y s a w ha hs hn hc hnx
                | false =>
                  cases e62 : (((s[a]'ha).toNat : Int) == 62) with
                  | true =>
                    have hc : (s[a]'ha) = 62 := byteN (d := 62) e62 (by decide)
                    cases hnx : (((s[a + 1]'hn).toNat : Int) == 61) with
                    | true => exact rone_62two_y s a w ha hs hn hc (byteN (d := 61) hnx (by decide))
                    | false => exact rone_62one_y s a w ha hs hn hc hnx
                  | false =>
                    cases e33 : (((s[a]'ha).toNat : Int) == 33) with
                    | true =>
                      have hc : (s[a]'ha) = 33 := byteN (d := 33) e33 (by decide)
                      cases hnx : (((s[a + 1]'hn).toNat : Int) == 61) with
                      | true => exact rone_33two_y s a w ha hs hn hc (byteN (d := 61) hnx (by decide))
                      | false => exact rone_33one_y s a w ha hs hn hc hnx
                    | false =>
                      cases e40 : (((s[a]'ha).toNat : Int) == 40) with
                      | true =>
                        have hc : (s[a]'ha) = 40 := byteN (d := 40) e40 (by decide)
                        exact rone_40_y s a w ha hs hn hc
                      | false =>
                        cases e41 : (((s[a]'ha).toNat : Int) == 41) with
                        | true =>
                          have hc : (s[a]'ha) = 41 := byteN (d := 41) e41 (by decide)
                          exact rone_41_y s a w ha hs hn hc
                        | false =>
                          cases e44 : (((s[a]'ha).toNat : Int) == 44) with
                          | true =>
                            have hc : (s[a]'ha) = 44 := byteN (d := 44) e44 (by decide)
                            exact rone_44_y s a w ha hs hn hc
                          | false =>
                            cases e46 : (((s[a]'ha).toNat : Int) == 46) with
                            | true =>
                              have hc : (s[a]'ha) = 46 := byteN (d := 46) e46 (by decide)
                              exact rone_46_y s a w ha hs hn hc
                            | false =>
                              cases e47 : (((s[a]'ha).toNat : Int) == 47) with
                              | true =>
                                have hc : (s[a]'ha) = 47 := byteN (d := 47) e47 (by decide)
                                exact rone_47_y s a w ha hs hn hc
                              | false =>
                                cases e61 : (((s[a]'ha).toNat : Int) == 61) with
                                | true =>
                                  have hc : (s[a]'ha) = 61 := byteN (d := 61) e61 (by decide)
                                  exact rone_61_y s a w ha hs hn hc
                                | false =>
                                  exact rone_else_y s a w ha hs hn hsm hbg hfg e45 e39 e58 e60 e62 e33 e40 e41 e44 e46 e47 e61
  · cases hsm : sml ((s[a]'ha).toNat : Int) with
    | true => exact rone_small_n s a w ha hs hn hsm
    | false =>
      cases hbg : bgI ((s[a]'ha).toNat : Int) with
      | true => exact rone_big_n s a w ha hs hn hsm hbg
      | false =>
        cases hfg : figI ((s[a]'ha).toNat : Int) with
        | true => exact rone_fig_n s a w ha hs hn hsm hbg hfg
        | false =>
          cases e45 : (((s[a]'ha).toNat : Int) == 45) with
          | true =>
            have hc : (s[a]'ha) = 45 := byteN (d := 45) e45 (by decide)
            exact rone_lowno_n s a w ha hs hn hc
          | false =>
            cases e39 : (((s[a]'ha).toNat : Int) == 39) with
            | true =>
              have hc : (s[a]'ha) = 39 := byteN (d := 39) e39 (by decide)
              exact rone_quot_n s a w ha hs hn hc
            | false =>
              cases e58 : (((s[a]'ha).toNat : Int) == 58) with
              | true =>
                have hc : (s[a]'ha) = 58 := byteN (d := 58) e58 (by decide)
                exact rone_58one_n s a w ha hs hn hc
              | false =>
                cases e60 : (((s[a]'ha).toNat : Int) == 60) with
                | true =>
                  have hc : (s[a]'ha) = 60 := byteN (d := 60) e60 (by decide)
                  exact rone_60one_n s a w ha hs hn hc
                | false =>
                  cases e62 : (((s[a]'ha).toNat : Int) == 62) with
                  | true =>
                    have hc : (s[a]'ha) = 62 := byteN (d := 62) e62 (by decide)
                    exact rone_62one_n s a w ha hs hn hc
                  | false =>
                    cases e33 : (((s[a]'ha).toNat : Int) == 33) with
                    | true =>
                      have hc : (s[a]'ha) = 33 := byteN (d := 33) e33 (by decide)
                      exact rone_33one_n s a w ha hs hn hc
                    | false =>
                      cases e40 : (((s[a]'ha).toNat : Int) == 40) with
                      | true =>
                        have hc : (s[a]'ha) = 40 := byteN (d := 40) e40 (by decide)
                        exact rone_40_n s a w ha hs hn hc
                      | false =>
                        cases e41 : (((s[a]'ha).toNat : Int) == 41) with
                        | true =>
                          have hc : (s[a]'ha) = 41 := byteN (d := 41) e41 (by decide)
                          exact rone_41_n s a w ha hs hn hc
                        | false =>
                          cases e44 : (((s[a]'ha).toNat : Int) == 44) with
                          | true =>
                            have hc : (s[a]'ha) = 44 := byteN (d := 44) e44 (by decide)
                            exact rone_44_n s a w ha hs hn hc
                          | false =>
                            cases e46 : (((s[a]'ha).toNat : Int) == 46) with
                            | true =>
                              have hc : (s[a]'ha) = 46 := byteN (d := 46) e46 (by decide)
                              exact rone_46_n s a w ha hs hn hc
                            | false =>
                              cases e47 : (((s[a]'ha).toNat : Int) == 47) with
                              | true =>
                                have hc : (s[a]'ha) = 47 := byteN (d := 47) e47 (by decide)
                                exact rone_47_n s a w ha hs hn hc
                              | false =>
                                cases e61 : (((s[a]'ha).toNat : Int) == 61) with
                                | true =>
                                  have hc : (s[a]'ha) = 61 := byteN (d := 61) e61 (by decide)
                                  exact rone_61_n s a w ha hs hn hc
                                | false =>
                                  exact rone_else_n s a w ha hs hn hsm hbg hfg e45 e39 e58 e60 e62 e33 e40 e41 e44 e46 e47 e61
end Go.Proofs.YtdfjhhhbkgelaaaGreatDoor.V
