/- Contracts of package window: Check, Look, Take, Latest, Taken, and the law's To. Each says what one call computes. -/
import Derived.Test.YtiakgohipnbdbaaProg
import Derived.Test.YtiakgohipnbdbaaBaseA
import Derived.Test.YtiakgohipnbdbaaWinP
import Derived.WalkKit
import Derived.WalkLawsBesides
import Derived.WalkSpells
import Derived.Outline
import Derived.RegionTactic
import Derived.BigRegion
import Derived.Deep.QuietTactic
import Derived.BigQuiet
import Derived.StillTailTactics
import Derived.Laws.BitsAllLaws
namespace Go.Proofs.Ytiakgohipnbdbaa
set_option linter.unusedVariables false
open Go.RowKit

theorem check_yes (b c : Int) (w : World) (h1 : 1 ≤ b) (h2 : b ≤ 65535) (h3 : 1 ≤ c) (h4 : c ≤ 2147483647) :
    Calls Try.prog 16 #[.agg #[.int .i64 b, .int .i64 c]] w fun e w' => e = .returned (.int .i64 0) ∧ Below w.heap.size w w' := by
  go_enter Try.func16, Try.ntmps16
  go_wp2
  go_ret
  exact ⟨rfl, (Below.refl _ _).alloc (Nat.le_refl _) _⟩

theorem check_no (b c : Int) (w : World) (h : b < 1 ∨ 65535 < b ∨ c < 1 ∨ 2147483647 < c) :
    Calls Try.prog 16 #[.agg #[.int .i64 b, .int .i64 c]] w fun e w' => e = .returned (.int .i64 10) ∧ Below w.heap.size w w' := by
  by_cases h1 : b < 1
  · clear h
    go_enter Try.func16, Try.ntmps16
    go_wp2
    go_ret
    exact ⟨rfl, (Below.refl _ _).alloc (Nat.le_refl _) _⟩
  · by_cases h2 : 65535 < b
    · clear h
      go_enter Try.func16, Try.ntmps16
      go_wp2
      go_ret
      exact ⟨rfl, (Below.refl _ _).alloc (Nat.le_refl _) _⟩
    · by_cases h3 : c < 1
      · clear h
        go_enter Try.func16, Try.ntmps16
        go_wp2
        go_ret
        exact ⟨rfl, (Below.refl _ _).alloc (Nat.le_refl _) _⟩
      · have h4 : 2147483647 < c := by omega
        clear h
        go_enter Try.func16, Try.ntmps16
        go_wp2
        go_ret
        exact ⟨rfl, (Below.refl _ _).alloc (Nat.le_refl _) _⟩

/-- A window in memory: the latest boot, the greatest counter, the bits. -/
def wcs (B C : Int) (S : Nat) : Array Value := #[.int .i64 B, .int .i64 C, .int .u64 (S : Int)]

theorem bit_at (S : Nat) (hS : S < 18446744073709551616) (k : Nat) : (bits .and .u64 ((S : Int) / 2 ^ k) 1 == 1) = S.testBit k := by
  have e1 : ((S : Int) / 2 ^ k) = ((S / 2 ^ k : Nat) : Int) := by simp
  have hlt : S / 2 ^ k < 18446744073709551616 := Nat.lt_of_le_of_lt (Nat.div_le_self _ _) hS
  rw [e1, show (1 : Int) = ((1 : Nat) : Int) from rfl, u64_and_nat _ _ hlt (by omega), Nat.testBit_eq_decide_div_mod_eq, Nat.and_one_is_mod]
  rw [Bool.eq_iff_iff]
  simp only [beq_iff_eq, decide_eq_true_eq]
  omega

set_option maxHeartbeats 400000 in
theorem look_bad (g : Nat) (B C : Int) (S : Nat) (b c : Int) (w : World) (hW : Bk w g 105 (wcs B C S))
    (h : b < 1 ∨ 65535 < b ∨ c < 1 ∨ 2147483647 < c) :
    Calls Try.prog 81 #[.pointer (some ⟨g, 0, none⟩), .agg #[.int .i64 b, .int .i64 c]] w fun e w' => e = .returned (.int .i64 10) ∧ Below w.heap.size w w' := by
  have hg := hW.lt
  have c0 := hW.cell 0
  have c1 := hW.cell 1
  have c2 := hW.cell 2
  simp [wcs] at c0 c1 c2
  clear hW
  go_enter Try.func81, Try.ntmps81
  go_wp2_with fail
  refine (check_no _ _ _ h).mono ?_
  rintro e w1 ⟨rfl, hb⟩
  obtain ⟨hc, hf⟩ := bcell hb
  go_wp2
  go_ret
  exact ⟨rfl, by repeat (first | exact ((Below.refl _ _).alloc (Nat.le_refl _) _).trans (hb.mono (by simp)) | apply Bdn)⟩

set_option maxHeartbeats 400000 in
theorem look_up (g : Nat) (B C : Int) (S : Nat) (b c : Int) (w : World) (hW : Bk w g 105 (wcs B C S))
    (h1 : 1 ≤ b) (h2 : b ≤ 65535) (h3 : 1 ≤ c) (h4 : c ≤ 2147483647) (hB : 0 ≤ B) (hB' : B ≤ 65535) (hC : 0 ≤ C) (hC' : C ≤ 2147483647) (hlt : B < b) :
    Calls Try.prog 81 #[.pointer (some ⟨g, 0, none⟩), .agg #[.int .i64 b, .int .i64 c]] w fun e w' => e = .returned (.int .i64 0) ∧ Below w.heap.size w w' := by
  have hg := hW.lt
  have c0 := hW.cell 0
  have c1 := hW.cell 1
  have c2 := hW.cell 2
  simp [wcs] at c0 c1 c2
  clear hW
  go_enter Try.func81, Try.ntmps81
  go_wp2_with fail
  refine (check_yes _ _ _ h1 h2 h3 h4).mono ?_
  rintro e w1 ⟨rfl, hb⟩
  obtain ⟨hc, hf⟩ := bcell hb
  go_wp2
  go_quiet (fail)
  go_wp2
  go_quiet (fail)
  go_wp2
  go_ret
  exact ⟨rfl, by repeat (first | exact ((Below.refl _ _).alloc (Nat.le_refl _) _).trans (hb.mono (by simp)) | apply Bdn)⟩

set_option maxHeartbeats 400000 in
theorem look_more (g : Nat) (B C : Int) (S : Nat) (c : Int) (w : World) (hW : Bk w g 105 (wcs B C S))
    (h1 : 1 ≤ B) (h2 : B ≤ 65535) (h3 : 1 ≤ c) (h4 : c ≤ 2147483647) (hC : 0 ≤ C) (hC' : C ≤ 2147483647) (hlt : C < c) :
    Calls Try.prog 81 #[.pointer (some ⟨g, 0, none⟩), .agg #[.int .i64 B, .int .i64 c]] w fun e w' => e = .returned (.int .i64 0) ∧ Below w.heap.size w w' := by
  have hg := hW.lt
  have c0 := hW.cell 0
  have c1 := hW.cell 1
  have c2 := hW.cell 2
  simp [wcs] at c0 c1 c2
  clear hW
  go_enter Try.func81, Try.ntmps81
  go_wp2_with fail
  refine (check_yes _ _ _ h1 h2 h3 h4).mono ?_
  rintro e w1 ⟨rfl, hb⟩
  obtain ⟨hc, hf⟩ := bcell hb
  go_wp2
  go_quiet (fail)
  go_wp2
  go_quiet (fail)
  go_wp2
  go_ret
  exact ⟨rfl, by repeat (first | exact ((Below.refl _ _).alloc (Nat.le_refl _) _).trans (hb.mono (by simp)) | apply Bdn)⟩

set_option maxHeartbeats 400000 in
theorem look_old1 (g : Nat) (B C : Int) (S : Nat) (b c : Int) (w : World) (hW : Bk w g 105 (wcs B C S))
    (h1 : 1 ≤ b) (h2 : b ≤ 65535) (h3 : 1 ≤ c) (h4 : c ≤ 2147483647) (hB : 0 ≤ B) (hB' : B ≤ 65535) (hC : 0 ≤ C) (hC' : C ≤ 2147483647) (hlt : b < B) (hd : decide (B < b) = false) (he : (b == B) = false) :
    Calls Try.prog 81 #[.pointer (some ⟨g, 0, none⟩), .agg #[.int .i64 b, .int .i64 c]] w fun e w' => e = .returned (.int .i64 9) ∧ Below w.heap.size w w' := by
  have hg := hW.lt
  have c0 := hW.cell 0
  have c1 := hW.cell 1
  have c2 := hW.cell 2
  simp [wcs] at c0 c1 c2
  clear hW
  go_enter Try.func81, Try.ntmps81
  go_wp2_with fail
  refine (check_yes _ _ _ h1 h2 h3 h4).mono ?_
  rintro e w1 ⟨rfl, hb⟩
  obtain ⟨hc, hf⟩ := bcell hb
  go_wp2
  go_quiet (fail)
  go_wp2
  go_quiet (fail)
  go_wp2
  go_quiet (fail)
  go_wp2
  go_ret
  exact ⟨rfl, by repeat (first | exact ((Below.refl _ _).alloc (Nat.le_refl _) _).trans (hb.mono (by simp)) | apply Bdn)⟩

set_option maxHeartbeats 400000 in
theorem look_old2 (g : Nat) (B C : Int) (S : Nat) (c : Int) (w : World) (hW : Bk w g 105 (wcs B C S))
    (h1 : 1 ≤ B) (h2 : B ≤ 65535) (h3 : 1 ≤ c) (h4 : c ≤ 2147483647) (hC : 0 ≤ C) (hC' : C ≤ 2147483647) (hlt : 64 ≤ C - c) :
    Calls Try.prog 81 #[.pointer (some ⟨g, 0, none⟩), .agg #[.int .i64 B, .int .i64 c]] w fun e w' => e = .returned (.int .i64 9) ∧ Below w.heap.size w w' := by
  have hg := hW.lt
  have c0 := hW.cell 0
  have c1 := hW.cell 1
  have c2 := hW.cell 2
  simp [wcs] at c0 c1 c2
  clear hW
  go_enter Try.func81, Try.ntmps81
  go_wp2_with fail
  refine (check_yes _ _ _ h1 h2 h3 h4).mono ?_
  rintro e w1 ⟨rfl, hb⟩
  obtain ⟨hc, hf⟩ := bcell hb
  go_wp2
  go_quiet (fail)
  go_wp2
  go_quiet (fail)
  go_wp2
  go_quiet (fail)
  go_wp2
  go_ret
  exact ⟨rfl, by repeat (first | exact ((Below.refl _ _).alloc (Nat.le_refl _) _).trans (hb.mono (by simp)) | apply Bdn)⟩

set_option maxHeartbeats 400000 in
theorem look_twice (g : Nat) (B C : Int) (S : Nat) (c : Int) (w : World) (hW : Bk w g 105 (wcs B C S))
    (h1 : 1 ≤ B) (h2 : B ≤ 65535) (h3 : 1 ≤ c) (h4 : c ≤ 2147483647) (hC : 0 ≤ C) (hC' : C ≤ 2147483647) (hlt : C - c < 64) (hge : 0 ≤ C - c) (hbit : (bits BinOp.and IntKind.u64 ((S : Int) / 2 ^ (C - c).toNat) 1 == 1) = true) :
    Calls Try.prog 81 #[.pointer (some ⟨g, 0, none⟩), .agg #[.int .i64 B, .int .i64 c]] w fun e w' => e = .returned (.int .i64 8) ∧ Below w.heap.size w w' := by
  have hg := hW.lt
  have c0 := hW.cell 0
  have c1 := hW.cell 1
  have c2 := hW.cell 2
  simp [wcs] at c0 c1 c2
  clear hW
  go_enter Try.func81, Try.ntmps81
  go_wp2_with fail
  refine (check_yes _ _ _ h1 h2 h3 h4).mono ?_
  rintro e w1 ⟨rfl, hb⟩
  obtain ⟨hc, hf⟩ := bcell hb
  go_wp2
  go_quiet (fail)
  go_wp2
  go_quiet (fail)
  go_wp2
  go_quiet (fail)
  go_wp2
  go_ret
  exact ⟨rfl, by repeat (first | exact ((Below.refl _ _).alloc (Nat.le_refl _) _).trans (hb.mono (by simp)) | apply Bdn)⟩

set_option maxHeartbeats 400000 in
theorem look_free (g : Nat) (B C : Int) (S : Nat) (c : Int) (w : World) (hW : Bk w g 105 (wcs B C S))
    (h1 : 1 ≤ B) (h2 : B ≤ 65535) (h3 : 1 ≤ c) (h4 : c ≤ 2147483647) (hC : 0 ≤ C) (hC' : C ≤ 2147483647) (hlt : C - c < 64) (hge : 0 ≤ C - c) (hbit : (bits BinOp.and IntKind.u64 ((S : Int) / 2 ^ (C - c).toNat) 1 == 1) = false) :
    Calls Try.prog 81 #[.pointer (some ⟨g, 0, none⟩), .agg #[.int .i64 B, .int .i64 c]] w fun e w' => e = .returned (.int .i64 0) ∧ Below w.heap.size w w' := by
  have hg := hW.lt
  have c0 := hW.cell 0
  have c1 := hW.cell 1
  have c2 := hW.cell 2
  simp [wcs] at c0 c1 c2
  clear hW
  go_enter Try.func81, Try.ntmps81
  go_wp2_with fail
  refine (check_yes _ _ _ h1 h2 h3 h4).mono ?_
  rintro e w1 ⟨rfl, hb⟩
  obtain ⟨hc, hf⟩ := bcell hb
  go_wp2
  go_quiet (fail)
  go_wp2
  go_quiet (fail)
  go_wp2
  go_quiet (fail)
  go_wp2
  go_ret
  exact ⟨rfl, by repeat (first | exact ((Below.refl _ _).alloc (Nat.le_refl _) _).trans (hb.mono (by simp)) | apply Bdn)⟩

theorem look_any (g : Nat) (B C : Int) (S : Nat) (b c : Int) (w : World) (hW : Bk w g 105 (wcs B C S)) (hS : winOk B C S) :
    Calls Try.prog 81 #[.pointer (some ⟨g, 0, none⟩), .agg #[.int .i64 b, .int .i64 c]] w fun e w' => e = .returned (.int .i64 (lookV B C S b c)) ∧ Below w.heap.size w w' := by
  obtain ⟨hB, hB', hC, hC', hS⟩ := hS
  unfold lookV
  by_cases h : b < 1 ∨ 65535 < b ∨ c < 1 ∨ 2147483647 < c
  · rw [if_pos h]
    exact look_bad g B C S b c w hW h
  · rw [if_neg h]
    by_cases k1 : B < b
    · rw [if_pos (.inl k1)]
      exact look_up g B C S b c w hW (by omega) (by omega) (by omega) (by omega) hB hB' hC hC' k1
    · by_cases k2 : b < B
      · rw [if_neg (by omega), if_pos (.inl k2)]
        exact look_old1 g B C S b c w hW (by omega) (by omega) (by omega) (by omega) hB hB' hC hC' k2 (by simpa using k1) (by simp; omega)
      · obtain rfl : b = B := by omega
        by_cases k3 : C < c
        · rw [if_pos (.inr ⟨rfl, k3⟩)]
          exact look_more g b C S c w hW (by omega) (by omega) (by omega) (by omega) hC hC' k3
        · rw [if_neg (by omega)]
          by_cases k4 : 64 ≤ C - c
          · rw [if_pos (.inr k4)]
            exact look_old2 g b C S c w hW (by omega) (by omega) (by omega) (by omega) hC hC' k4
          · rw [if_neg (by omega)]
            by_cases k5 : S.testBit (C - c).toNat
            · rw [if_pos k5]
              exact look_twice g b C S c w hW (by omega) (by omega) (by omega) (by omega) hC hC' (by omega) (by omega) ((bit_at S hS _).trans k5)
            · rw [if_neg k5]
              exact look_free g b C S c w hW (by omega) (by omega) (by omega) (by omega) hC hC' (by omega) (by omega) ((bit_at S hS _).trans (by simpa using k5))

end Go.Proofs.Ytiakgohipnbdbaa
