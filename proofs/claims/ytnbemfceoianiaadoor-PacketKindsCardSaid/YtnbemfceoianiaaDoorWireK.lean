/- Contracts of package wire: Check and Field.out, each in one piece. -/
import Derived.Test.YtnbemfceoianiaaDoorWireP
import Derived.Test.YtnbemfceoianiaaDoorWireS
namespace Go.Proofs.YtnbemfceoianiaaDoor
set_option linter.unusedVariables false
open Go.RowKit

theorem wfcheck_any (s n : Int) (len : Nat) (A : Option Addr) (cap : Nat) (w : World) :
    Calls Tryd.prog 34 #[.agg #[.int .i64 s, .int .i64 n, .slice A len cap]] w fun e w' => e = .returned (.int .i64 (chkB s n len)) ∧ Below w.heap.size w w' := by
  unfold chkB
  by_cases h1 : s < 0
  · rw [if_pos (.inl h1)]; exact chk_kind1 s n len h1 A cap w
  by_cases h2 : 4 < s
  · rw [if_pos (.inr h2)]; exact chk_kind2 s n len h2 (by omega) A cap w
  rw [if_neg (by omega)]
  by_cases h3 : s = 4
  · subst h3
    rw [if_pos rfl]
    by_cases h4 : n = 0
    · subst h4
      rw [if_neg (by simp)]
      by_cases h5 : 512 < len
      · rw [if_pos h5]; exact chk_some_long len h5 A cap w
      · rw [if_neg h5]; exact chk_some_ok len (by omega) A cap w
    · rw [if_pos h4]; exact chk_some_n n len (by simpa using h4) A cap w
  rw [if_neg h3]
  by_cases h4 : 0 < len
  · rw [if_pos h4]; exact chk_b s n len (by omega) (by omega) h4 (by simpa using h3) A cap w
  rw [if_neg h4]
  obtain rfl : len = 0 := by omega
  by_cases h5 : n < 0
  · rw [if_pos h5]; exact chk_neg s n (by omega) (by omega) h5 (by simpa using h3) A cap w
  rw [if_neg h5]
  have hd : decide (n < 0) = false := by simpa using h5
  by_cases h6 : s = 3
  · subst h6; rw [if_pos rfl]; exact chk_8 n (by omega) hd A cap w
  rw [if_neg h6]
  by_cases h7 : s = 0
  · subst h7; rw [if_pos rfl]
    by_cases h8 : n / 2 ^ 8 = 0
    · rw [if_neg (by simpa using h8)]; exact chk_0_ok n (by omega) hd (by rw [h8]; rfl) A cap w
    · rw [if_pos h8]; exact chk_0_big n (by omega) hd (by simpa using h8) A cap w
  rw [if_neg h7]
  by_cases h7 : s = 1
  · subst h7; rw [if_pos rfl]
    by_cases h8 : n / 2 ^ 16 = 0
    · rw [if_neg (by simpa using h8)]; exact chk_1_ok n (by omega) hd (by rw [h8]; rfl) A cap w
    · rw [if_pos h8]; exact chk_1_big n (by omega) hd (by simpa using h8) A cap w
  rw [if_neg h7]
  obtain rfl : s = 2 := by omega
  by_cases h8 : n / 2 ^ 32 = 0
  · rw [if_neg (by simpa using h8)]; exact chk_2_ok n (by omega) hd (by rw [h8]; rfl) A cap w
  · rw [if_pos h8]; exact chk_2_big n (by omega) hd (by simpa using h8) A cap w

theorem wfout_any (f : Fd) (w : World) (hok : chkB f.s f.n f.l.length = 0) (hn : f.n ≤ 9223372036854775807) (hl : RB w w.heap.size f.A f.l) :
    Calls Tryd.prog 35 #[f.v] w (RetFresh w 5 1 (outB f.s f.n f.l).length (by8 (outB f.s f.n f.l))) := by
  obtain ⟨h0, h1⟩ := chkB_ok _ _ _ hok
  obtain ⟨s, n, A, c, l⟩ := f
  simp only [Fd.v] at *
  rcases h1 with ⟨rfl, rfl, h2⟩ | ⟨h2, h3, h4⟩
  · have := out_some A c l 0 w hl (by omega)
    rw [show outB 4 0 l = numB 2 l.length ++ l from if_pos rfl, List.length_append, numB_length]
    exact this
  · have hs : s = 0 ∨ s = 1 ∨ s = 2 ∨ s = 3 := by omega
    rcases hs with rfl | rfl | rfl | rfl
    · rw [show outB 0 n l = numB 1 n from rfl, numB_length]; exact out_0 n _ w h0 hn ⟨_, _, _, rfl⟩
    · rw [show outB 1 n l = numB 2 n from rfl, numB_length]; exact out_1 n _ w h0 hn ⟨_, _, _, rfl⟩
    · rw [show outB 2 n l = numB 4 n from rfl, numB_length]; exact out_2 n _ w h0 hn ⟨_, _, _, rfl⟩
    · rw [show outB 3 n l = numB 8 n from rfl, numB_length]; exact out_3 n _ w h0 hn ⟨_, _, _, rfl⟩
end Go.Proofs.YtnbemfceoianiaaDoor
