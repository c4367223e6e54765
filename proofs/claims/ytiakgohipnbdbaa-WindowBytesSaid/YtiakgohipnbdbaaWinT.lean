/- Contracts of package window, further: Take. -/
import Derived.Test.YtiakgohipnbdbaaWin
namespace Go.Proofs.Ytiakgohipnbdbaa
set_option linter.unusedVariables false
open Go.RowKit

theorem or_bit (S k : Nat) (hS : S < 18446744073709551616) (hk : k < 64) : bits .or .u64 (S : Int) (IntKind.u64.wrap (2 ^ k)) = ((bitB S k : Nat) : Int) := by
  have h2 : 2 ^ k < 18446744073709551616 := Nat.lt_of_lt_of_le (Nat.pow_lt_pow_right (by omega) hk) (by decide)
  unfold bitB
  rw [IntKind.wrap_u64, show ((2 : Int) ^ k) = ((2 ^ k : Nat) : Int) by simp]
  generalize 2 ^ k = p at *
  rw [Int.emod_eq_of_lt (by omega) (by omega), u64_or_nat _ _ hS h2]
theorem or_more (S k : Nat) (hS : S < 18446744073709551616) : bits .or .u64 (IntKind.u64.wrap ((S : Int) * 2 ^ min k 64)) 1 = ((moreB S k : Nat) : Int) := by
  rw [IntKind.wrap_u64, show ((S : Int) * 2 ^ min k 64 % 18446744073709551616) = ((S * 2 ^ min k 64 % 18446744073709551616 : Nat) : Int) by simp, show (1 : Int) = ((1 : Nat) : Int) from rfl, u64_or_nat _ _ (Nat.mod_lt _ (by omega)) (by omega)]
  rfl

set_option maxHeartbeats 400000 in
theorem take_not (g : Nat) (B C : Int) (S : Nat) (b c : Int) (w : World) (hW : Bk w g 105 (wcs B C S)) (hS : winOk B C S) (hl : (lookV B C S b c != 0) = true) :
    Calls Try.prog 60 #[.pointer (some ⟨g, 0, none⟩), .agg #[.int .i64 b, .int .i64 c]] w fun e w' => e = .returned (.int .i64 (lookV B C S b c)) ∧ Below w.heap.size w w' := by
  have hS' := Lib.hid hS
  clear hS
  go_enter Try.func60, Try.ntmps60
  go_wp2_with fail
  refine (look_any g B C S b c _ (hW.alloc _) hS'.out).mono ?_
  rintro e w1 ⟨rfl, hb⟩
  go_wp2
  go_ret
  exact ⟨rfl, ((Below.refl _ _).alloc (Nat.le_refl _) _).trans (hb.mono (by simp))⟩

set_option maxHeartbeats 400000 in
theorem take_up (g : Nat) (B C : Int) (S : Nat) (b c : Int) (w : World) (hW : Bk w g 105 (wcs B C S)) (hS : winOk B C S)
    (h1 : 1 ≤ b) (h2 : b ≤ 65535) (h3 : 1 ≤ c) (h4 : c ≤ 2147483647) (hlt : B < b) (hl : (lookV B C S b c != 0) = false) :
    Calls Try.prog 60 #[.pointer (some ⟨g, 0, none⟩), .agg #[.int .i64 b, .int .i64 c]] w fun e w' => e = .returned (.int .i64 0) ∧ On w w' g ∧ Bk w' g 105 (wcs b c 1) := by
  have hS' := Lib.hid hS
  clear hS
  have hg := hW.lt
  go_enter Try.func60, Try.ntmps60
  go_wp2_with fail
  refine (look_any g B C S b c _ (hW.alloc _) hS'.out).mono ?_
  rintro e w1 ⟨rfl, hb⟩
  have hO : On w w1 g := ((On.refl w g).alloc _).then_below hb
  have hB1 : Bk w1 g 105 (wcs B C S) := (hW.alloc _).below hb (by simp; omega)
  obtain ⟨hc, hf⟩ := bcell hb
  have c0 := hW.cell 0
  have c1 := hW.cell 1
  have c2 := hW.cell 2
  have f0 := hW.fr 0
  have f1 := hW.fr 1
  have f2 := hW.fr 2
  simp [wcs] at c0 c1 c2
  have HO := Lib.hid hO
  have HB := Lib.hid hB1
  clear hO hB1 hW
  go_wp2
  go_quiet (fail)
  go_wp2
  go_ret
  exact ⟨rfl, (((HO.out.drewN _).set (.inl rfl) _).set (.inl rfl) _).set (.inl rfl) _, ((((HB.out.drewN _).put 0 _).put 1 _).put 2 _).of_eq (by simp [wcs])⟩

set_option maxHeartbeats 400000 in
theorem take_more (g : Nat) (B C : Int) (S : Nat) (c : Int) (w : World) (hW : Bk w g 105 (wcs B C S)) (hS : winOk B C S)
    (h1 : 1 ≤ B) (h2 : B ≤ 65535) (h3 : 1 ≤ c) (h4 : c ≤ 2147483647) (hC : 0 ≤ C) (hC' : C ≤ 2147483647) (hlt : C < c) (hl : (lookV B C S B c != 0) = false) :
    Calls Try.prog 60 #[.pointer (some ⟨g, 0, none⟩), .agg #[.int .i64 B, .int .i64 c]] w fun e w' => e = .returned (.int .i64 0) ∧ On w w' g ∧ Bk w' g 105 (wcs B c (moreB S (c - C).toNat)) := by
  have hS' := Lib.hid hS
  clear hS
  have hg := hW.lt
  have hsub : IntKind.i64.wrap (c - C) = c - C := IntWalk.i64_in _ (by omega)
  have hnn : C ≤ c := by omega
  go_enter Try.func60, Try.ntmps60
  go_wp2_with fail
  refine (look_any g B C S B c _ (hW.alloc _) hS'.out).mono ?_
  rintro e w1 ⟨rfl, hb⟩
  have hO : On w w1 g := ((On.refl w g).alloc _).then_below hb
  have hB1 : Bk w1 g 105 (wcs B C S) := (hW.alloc _).below hb (by simp; omega)
  obtain ⟨hc, hf⟩ := bcell hb
  have c0 := hW.cell 0
  have c1 := hW.cell 1
  have c2 := hW.cell 2
  have f0 := hW.fr 0
  have f1 := hW.fr 1
  have f2 := hW.fr 2
  simp [wcs] at c0 c1 c2
  have HO := Lib.hid hO
  have HB := Lib.hid hB1
  clear hO hB1 hW
  go_wp2
  go_quiet (fail)
  go_wp2
  go_quiet (fail)
  go_wp2
  go_region
  go_wp2
  go_ret
  exact ⟨rfl, (((HO.out.drewN _).set (.inl rfl) _).set (.inl rfl) _).set (.inl rfl) _, ((((HB.out.drewN _).put 2 _).put 0 _).put 1 _).of_eq (by simp [wcs, ← or_more S _ hS'.out.2.2.2.2])⟩

set_option maxHeartbeats 400000 in
theorem take_bit (g : Nat) (B C : Int) (S : Nat) (c : Int) (w : World) (hW : Bk w g 105 (wcs B C S)) (hS : winOk B C S)
    (h1 : 1 ≤ B) (h2 : B ≤ 65535) (h3 : 1 ≤ c) (h4 : c ≤ 2147483647) (hC : 0 ≤ C) (hC' : C ≤ 2147483647) (hlt : c ≤ C) (hge : C - c < 64) (hl : (lookV B C S B c != 0) = false) :
    Calls Try.prog 60 #[.pointer (some ⟨g, 0, none⟩), .agg #[.int .i64 B, .int .i64 c]] w fun e w' => e = .returned (.int .i64 0) ∧ On w w' g ∧ Bk w' g 105 (wcs B C (bitB S (C - c).toNat)) := by
  have hS' := Lib.hid hS
  clear hS
  have hg := hW.lt
  go_enter Try.func60, Try.ntmps60
  go_wp2_with fail
  refine (look_any g B C S B c _ (hW.alloc _) hS'.out).mono ?_
  rintro e w1 ⟨rfl, hb⟩
  have hO : On w w1 g := ((On.refl w g).alloc _).then_below hb
  have hB1 : Bk w1 g 105 (wcs B C S) := (hW.alloc _).below hb (by simp; omega)
  obtain ⟨hc, hf⟩ := bcell hb
  have c0 := hW.cell 0
  have c1 := hW.cell 1
  have c2 := hW.cell 2
  have f0 := hW.fr 0
  have f1 := hW.fr 1
  have f2 := hW.fr 2
  simp [wcs] at c0 c1 c2
  have HO := Lib.hid hO
  have HB := Lib.hid hB1
  clear hO hB1 hW
  go_wp2
  go_quiet (fail)
  go_wp2
  go_quiet (fail)
  go_wp2
  go_region
  go_wp2
  go_ret
  exact ⟨rfl, ((HO.out.drewN _).set (.inl rfl) _), ((HB.out.drewN _).put 2 _).of_eq (by simp [wcs, ← or_bit S _ hS'.out.2.2.2.2 (show (C - c).toNat < 64 by omega)])⟩

theorem take_any (g : Nat) (B C : Int) (S : Nat) (b c : Int) (w : World) (hW : Bk w g 105 (wcs B C S)) (hS : winOk B C S) :
    Calls Try.prog 60 #[.pointer (some ⟨g, 0, none⟩), .agg #[.int .i64 b, .int .i64 c]] w fun e w' =>
      e = .returned (.int .i64 (lookV B C S b c)) ∧ On w w' g ∧ Bk w' g 105 (wcs (takeS B C S b c).1 (takeS B C S b c).2.1 (takeS B C S b c).2.2) := by
  by_cases hl : lookV B C S b c = 0
  · have hl' : (lookV B C S b c != 0) = false := by simp [hl]
    obtain ⟨hok, hc⟩ := lookV_zero hl
    have hS0 := hS
    obtain ⟨hB, hB', hC, hC', _⟩ := hS0
    by_cases k1 : B < b
    · have e : takeS B C S b c = (b, c, 1) := by unfold takeS; rw [if_neg (by simp [hl]), if_pos k1]
      rw [hl, e]
      exact take_up g B C S b c w hW hS hok.1 hok.2.1 hok.2.2.1 hok.2.2.2 k1 hl'
    · obtain rfl : b = B := by omega
      by_cases k2 : C < c
      · have e : takeS b C S b c = (b, c, moreB S (c - C).toNat) := by unfold takeS; rw [if_neg (by simp [hl]), if_neg k1, if_pos k2]
        rw [hl, e]
        exact take_more g b C S c w hW hS hok.1 hok.2.1 hok.2.2.1 hok.2.2.2 hC hC' k2 hl'
      · have e : takeS b C S b c = (b, C, bitB S (C - c).toNat) := by unfold takeS; rw [if_neg (by simp [hl]), if_neg k1, if_neg k2]
        rw [hl, e]
        exact take_bit g b C S c w hW hS hok.1 hok.2.1 hok.2.2.1 hok.2.2.2 hC hC' (by omega) (by omega) hl'
  · have e : takeS B C S b c = (B, C, S) := by unfold takeS; rw [if_pos hl]
    rw [e]
    refine (take_not g B C S b c w hW hS (by simpa using hl)).mono fun e w' ⟨he, hb⟩ => ⟨he, On.of_below hb, hW.below hb hW.lt⟩

theorem to12 (b c : Int) (w : World) :
    Calls Try.prog 14 #[.agg #[.int .i64 b, .int .i64 c]] w fun e w' => e = .returned (.agg #[.int .i64 b, .int .i64 c]) ∧ Below w.heap.size w w' := by
  go_enter Try.func14, Try.ntmps14
  go_wp2
  refine bodyPost_ret (v := .agg #[.int .i64 b, .int .i64 c]) (by simp [results, Try.results14, go_sem]) rfl ⟨rfl, ?_⟩
  exact ((((Below.refl _ _).alloc (Nat.le_refl _) _).alloc (by simp) _))

theorem right12 (b c : Int) (w : World) :
    Calls Try.prog 15 #[.agg #[.int .i64 b, .int .i64 c]] w fun e w' => e = .returned (.bool (okN b c)) ∧ Below w.heap.size w w' := by
  by_cases h1 : 0 < b
  · by_cases h2 : b < 65536
    · by_cases h3 : 0 < c
      · by_cases h4 : c < 2147483648
        · have e : okN b c = true := by simp [okN]; omega
          rw [e]
          go_enter Try.func15, Try.ntmps15
          go_wp2
          go_ret
          exact ⟨rfl, (Below.refl _ _).alloc (Nat.le_refl _) _⟩
        · have e : okN b c = false := by simp [okN]; omega
          rw [e]
          go_enter Try.func15, Try.ntmps15
          go_wp2
          go_ret
          exact ⟨rfl, (Below.refl _ _).alloc (Nat.le_refl _) _⟩
      · have e : okN b c = false := by simp [okN]; omega
        rw [e]
        go_enter Try.func15, Try.ntmps15
        go_wp2
        go_ret
        exact ⟨rfl, (Below.refl _ _).alloc (Nat.le_refl _) _⟩
    · have e : okN b c = false := by simp [okN]; omega
      rw [e]
      go_enter Try.func15, Try.ntmps15
      go_wp2
      go_ret
      exact ⟨rfl, (Below.refl _ _).alloc (Nat.le_refl _) _⟩
  · have e : okN b c = false := by simp [okN]; omega
    rw [e]
    go_enter Try.func15, Try.ntmps15
    go_wp2
    go_ret
    exact ⟨rfl, (Below.refl _ _).alloc (Nat.le_refl _) _⟩

theorem less12 (b c b' c' : Int) (w : World) :
    Calls Try.prog 18 #[.agg #[.int .i64 b, .int .i64 c], .agg #[.int .i64 b', .int .i64 c']] w fun e w' => e = .returned (.bool (lessN b c b' c')) ∧ Below w.heap.size w w' := by
  by_cases h1 : b = b'
  · subst h1
    have e : lessN b c b c' = decide (c < c') := by simp [lessN]
    rw [e]
    go_enter Try.func18, Try.ntmps18
    go_wp2
    go_ret
    exact ⟨rfl, ((((Below.refl _ _).alloc (Nat.le_refl _) _).alloc (by simp) _))⟩
  · have e : lessN b c b' c' = decide (b < b') := by simp [lessN]; omega
    rw [e]
    have hne : (b != b') = true := by simpa using h1
    go_enter Try.func18, Try.ntmps18
    go_wp2
    go_ret
    exact ⟨rfl, ((((Below.refl _ _).alloc (Nat.le_refl _) _).alloc (by simp) _))⟩

end Go.Proofs.Ytiakgohipnbdbaa
