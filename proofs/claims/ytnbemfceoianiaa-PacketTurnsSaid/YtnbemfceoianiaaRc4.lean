/- The document's layer 4: Check; Out of bytes; Out of any right field. -/
import Derived.Test.YtnbemfceoianiaaRf7
import Derived.Test.YtnbemfceoianiaaPut1
namespace Go.Proofs.Ytnbemfceoianiaa
set_option linter.unusedVariables false
open Go.RowKit

def mostR (s : Int) : Int := if s = 0 then 255 else if s = 1 then 65535 else if s = 2 then 4294967295 else 9223372036854775807
theorem chk_split (s n : Int) (k : Nat) (v : Int) (hn : n ≤ 9223372036854775807) (h : chkB s n k = v) :
    (s < 0 ∧ v = 13) ∨ (0 ≤ s ∧ 4 < s ∧ v = 13) ∨ (s = 4 ∧ (n ≠ 0 ∧ v = 10 ∨ n = 0 ∧ 512 < k ∧ v = 2 ∨ n = 0 ∧ k ≤ 512 ∧ v = 0)) ∨
    ((s = 0 ∨ s = 1 ∨ s = 2 ∨ s = 3) ∧ (0 < k ∧ v = 10 ∨ k = 0 ∧ n < 0 ∧ v = 10 ∨ k = 0 ∧ 0 ≤ n ∧ mostR s < n ∧ v = 10 ∨ k = 0 ∧ 0 ≤ n ∧ n ≤ mostR s ∧ v = 0)) := by
  have e1 : (2 : Int) ^ 8 = 256 := by decide
  have e2 : (2 : Int) ^ 16 = 65536 := by decide
  have e3 : (2 : Int) ^ 32 = 4294967296 := by decide
  unfold chkB at h
  rw [e1, e2, e3] at h
  clear e1 e2 e3
  by_cases h1 : s < 0
  · rw [if_pos (.inl h1)] at h
    exact .inl ⟨h1, h.symm⟩
  by_cases h2 : 4 < s
  · rw [if_pos (.inr h2)] at h
    exact .inr (.inl ⟨by omega, h2, h.symm⟩)
  rw [if_neg (by omega)] at h
  by_cases h3 : s = 4
  · rw [if_pos h3] at h
    refine .inr (.inr (.inl ⟨h3, ?_⟩))
    by_cases h4 : n = 0
    · rw [if_neg (by omega)] at h
      split at h <;> omega
    · rw [if_pos h4] at h
      omega
  rw [if_neg h3] at h
  refine .inr (.inr (.inr ⟨by omega, ?_⟩))
  by_cases h4 : 0 < k
  · rw [if_pos h4] at h
    omega
  rw [if_neg h4] at h
  by_cases h5 : n < 0
  · rw [if_pos h5] at h
    omega
  rw [if_neg h5] at h
  have hk : k = 0 := by omega
  clear h4
  unfold mostR
  have h6 : s = 0 ∨ s = 1 ∨ s = 2 ∨ s = 3 := by omega
  rcases h6 with rfl | rfl | rfl | rfl
  · rw [if_neg (by omega), if_pos rfl] at h
    rw [if_pos rfl]
    split at h <;> omega
  · rw [if_neg (by omega), if_neg (by omega), if_pos rfl] at h
    rw [if_neg (by omega), if_pos rfl]
    split at h <;> omega
  · rw [if_neg (by omega), if_neg (by omega), if_neg (by omega)] at h
    rw [if_neg (by omega), if_neg (by omega), if_pos rfl]
    split at h <;> omega
  · rw [if_pos rfl] at h
    rw [if_neg (by omega), if_neg (by omega), if_neg (by omega)]
    omega

set_option maxRecDepth 100000 in
set_option maxHeartbeats 1600000 in
theorem refout_some (n : Int) (w : World) (A : Option Addr) (c : Nat) (l : List UInt8) (hl : RB w w.heap.size A l) (hn : l.length ≤ 1000000) :
    Calls Try.prog 72 #[.agg #[.int .i64 4, .int .i64 n, .slice A l.length c]] w (RetFresh w 5 1 (2 + l.length) (by8 (numB 2 l.length ++ l))) := by
  have HM := Lib.hid ((Mst.start w).new 128 #[.int .i64 4, .int .i64 n, .slice A l.length c])
  have HL := Lib.hid hl
  clear hl
  obtain ⟨L, hL⟩ : ∃ L, l.length = L := ⟨_, rfl⟩
  have b1 : IntKind.u8.wrap ((L : Int) / 256) = ((nbyte L 1).toNat : Int) := by
    have := low_byte L (by omega) 1
    rw [IntKind.wrap_u8] at this ⊢
    rw [← this, Int.pow_one]
    omega
  have b0 : IntKind.u8.wrap ((L : Int) % 256) = ((nbyte L 0).toNat : Int) := by
    have := low_byte L (by omega) 0
    rw [Int.pow_zero, Int.ediv_one] at this
    exact this
  obtain ⟨x1, hx1⟩ : ∃ x, (nbyte (L : Int) 1) = x := ⟨_, rfl⟩
  obtain ⟨x0, hx0⟩ : ∃ x, (nbyte (L : Int) 0) = x := ⟨_, rfl⟩
  have HN := Lib.hid (show numB 2 (L : Int) = [x1, x0] by rw [← hx1, ← hx0]; rfl)
  rw [hx1] at b1
  rw [hx0] at b0
  obtain ⟨y1, hy1⟩ : ∃ y : Nat, x1.toNat = y := ⟨_, rfl⟩
  obtain ⟨y0, hy0⟩ : ∃ y : Nat, x0.toNat = y := ⟨_, rfl⟩
  rw [hy1] at b1
  rw [hy0] at b0
  rw [hL] at HM ⊢
  have HLL := Lib.hid hL
  have HY1 := Lib.hid hy1
  have HY0 := Lib.hid hy0
  have hm2 := HM.out.newrow 5 1 2 2 #[.int .u8 y1, .int .u8 y0] (Nat.le_refl _) (by decide) rfl
  rw [show (w.alloc (.cells #[.int .i64 4, .int .i64 n, .slice A L c] 128)).heap.size = w.heap.size + 1 from by simp] at hm2
  have HM2 := Lib.hid hm2
  clear hm2
  have i0 : (0 : Int) ≤ (L : Int) := by omega
  rw [hL] at hn
  clear hL hx1 hx0 hy1 hy0
  go_enter Try.func72, Try.ntmps72
  go_wp2_with (at_builtin; refine wpList_appM rfl _ _ 26 rfl [] HM2.out el_u8 rfl _ _ _ _ (by8 l) rfl (by have := (HL.out.alloc (.cells #[.int .i64 4, .int .i64 n, .slice A L c] 128)).alloc (.cells #[.int .u8 y1, .int .u8 y0] 5); unfold RB at this; rw [HLL.out] at this; exact this) (by8_one _) (by unfold maxLen; omega) (by omega) ?_; intro A2 c2 w2 s2; have S2 := Lib.hid s2; clear s2)
  go_ret
  have a := S2.out
  have e : List.take (2 * 1) [Value.int .u8 (y1 : Int), .int .u8 (y0 : Int)] ++ by8 l = by8 (numB 2 (L : Int) ++ l) := by rw [HN.out, ← HY1.out, ← HY0.out]; rfl
  refine ⟨.slice A2 (2 + L) c2, rfl, a.bel, ?_⟩
  have r := a.row []
  rw [← e]
  exact r

/-- Out of any right field. -/
theorem refout_any (f : Fd) (w : World) (hok : chkB f.s f.n f.l.length = 0) (hn : f.n ≤ 9223372036854775807) (hl : RB w w.heap.size f.A f.l) :
    Calls Try.prog 72 #[f.v] w (RetFresh w 5 1 (outB f.s f.n f.l).length (by8 (outB f.s f.n f.l))) := by
  obtain ⟨h0, h1⟩ := chkB_ok _ _ _ hok
  obtain ⟨s, n, A, c, l⟩ := f
  simp only [Fd.v] at *
  rcases h1 with ⟨rfl, rfl, h⟩ | ⟨hs0, hs3, h⟩
  · have := refout_some 0 w A c l hl (by omega)
    have e : outB 4 0 l = numB 2 l.length ++ l := rfl
    rw [e, List.length_append, numB_length]
    exact this
  · have := refout_num s n hs0 hs3 h0 hn A l.length c w
    have e : outB s n l = numB (widB s) n := by unfold outB; rw [if_neg (by omega)]
    rw [e, numB_length]
    exact this
end Go.Proofs.Ytnbemfceoianiaa
