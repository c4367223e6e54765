/- The document's Bit and Covers; Has; masks that are none. -/
import Derived.Test.YtidphalfafaniaaCl3
namespace Go.Proofs.Ytidphalfafaniaa
set_option linter.unusedVariables false
open Go.RowKit

theorem div_pow (m k : Nat) : (m / 2 ^ k) / 2 = m / 2 ^ (k + 1) := by rw [Nat.div_div_eq_div_mul, Nat.pow_succ]
theorem bit_mod (m k : Nat) : (((m / 2 ^ k : Nat) : Int) % 2 == 1) = m.testBit k := by
  rw [Nat.testBit_eq_decide_div_mod_eq, Bool.eq_iff_iff]
  simp only [beq_iff_eq, decide_eq_true_eq]
  omega

set_option maxRecDepth 100000 in
set_option maxHeartbeats 1600000 in
theorem bit_is (m k : Nat) (v : Bool) (h : m.testBit k = v) (hm : m < 256) (hk : k < 8) (w : World) :
    Calls Try.prog 55 #[.int .i64 m, .int .i64 k] w fun e w' => e = .returned (.bool v) ∧ w = w' := by
  have HV := Lib.hid h
  clear h
  go_enter Try.func55, Try.ntmps55
  go_wp2_with fail
  go_loopg [0, 5] k (fun gg s0 s5 wr => ∃ j : Nat, j + gg = k ∧ s5 = .int .i64 j ∧ s0 = .int .i64 (m / 2 ^ j : Nat) ∧ w = wr)
  case atStart => exact ⟨0, by omega, rfl, by simp, rfl⟩
  case round =>
    obtain ⟨j, hj, rfl, rfl, rfl⟩ := hrel
    obtain ⟨q, hq⟩ : ∃ q, m / 2 ^ j = q := ⟨_, rfl⟩
    have hq2 : q < 256 := by rw [← hq]; exact Nat.lt_of_le_of_lt (Nat.div_le_self _ _) hm
    have HQ := Lib.hid hq
    rw [hq]
    clear hq
    by_cases hlt : j < k
    · have HN := Lib.hid (show m / 2 ^ (j + 1) = q / 2 by rw [← HQ.out, div_pow])
      go_wp2_with fail
      go_roundg (k - (j + 1))
      case measure => exact meas hj hlt
      case rel => exact ⟨j + 1, meas2 hlt, by go_num, by rw [HN.out]; first | rfl | simp, rfl⟩
    · obtain rfl : j = k := by omega
      have hb := bit_mod m j
      rw [HV.out, HQ.out] at hb
      go_wp2_with fail
      go_ret
      exact ⟨rfl, rfl⟩

theorem covK (a b k : Nat) (h : ∀ r, r < k → b.testBit r = true → a.testBit r = true) (hk : 8 ≤ k) : covB a b = true := (covB_iff a b).2 fun r hr hb => h r (by omega) hb
set_option maxRecDepth 100000 in
set_option maxHeartbeats 1600000 in
theorem refcovers_any (a b : Nat) (ha : a < 256) (hb : b < 256) (w : World) :
    Calls Try.prog 56 #[.int .i64 a, .int .i64 b] w fun e w' => e = .returned (.bool (covB a b)) ∧ w = w' := by
  go_enter Try.func56, Try.ntmps56
  go_wp2_with fail
  go_loopg [5] 8 (fun gg s5 wr => ∃ k : Nat, k + gg = 8 ∧ s5 = .int .i64 k ∧ (∀ r, r < k → b.testBit r = true → a.testBit r = true) ∧ w = wr)
  case atStart => exact ⟨0, by omega, rfl, by omega, rfl⟩
  case round =>
    obtain ⟨k, hk, rfl, hall, rfl⟩ := hrel
    have HA := Lib.hid hall
    clear hall
    by_cases hlt : k < 8
    · cases h1 : b.testBit k with
      | false =>
        have HX : Hid (∀ r, r < k + 1 → b.testBit r = true → a.testBit r = true) := by
          intro r hr hbr
          rcases Nat.eq_or_lt_of_le (Nat.le_of_lt_succ hr) with rfl | h
          · rw [h1] at hbr; cases hbr
          · exact HA.out r h hbr
        have H1 := Lib.hid h1
        clear h1
        go_wp2_with ((with_reducible refine (bit_is b k false H1.out hb hlt _).mono ?_); rintro e w' ⟨rfl, rfl⟩)
        go_roundg (8 - (k + 1))
        case measure => exact meas hk hlt
        case rel => exact ⟨k + 1, meas2 hlt, by go_num, HX.out, rfl⟩
      | true =>
        have H1 := Lib.hid h1
        clear h1
        cases h2 : a.testBit k with
        | true =>
          have HX : Hid (∀ r, r < k + 1 → b.testBit r = true → a.testBit r = true) := by
            intro r hr hbr
            rcases Nat.eq_or_lt_of_le (Nat.le_of_lt_succ hr) with rfl | h
            · exact h2
            · exact HA.out r h hbr
          have H2 := Lib.hid h2
          clear h2
          go_wp2_with (first | ((with_reducible refine (bit_is b k true H1.out hb hlt _).mono ?_); rintro e w' ⟨rfl, rfl⟩) | ((with_reducible refine (bit_is a k true H2.out ha hlt _).mono ?_); rintro e w' ⟨rfl, rfl⟩))
          go_roundg (8 - (k + 1))
          case measure => exact meas hk hlt
          case rel => exact ⟨k + 1, meas2 hlt, by go_num, HX.out, rfl⟩
        | false =>
          have H2 := Lib.hid h2
          have HN : Hid (covB a b = false) := by
            show _ = _
            rw [Bool.eq_false_iff]
            intro hh
            have := (covB_iff a b).1 hh k hlt H1.out
            rw [h2] at this
            cases this
          clear h2
          go_wp2_with (first | ((with_reducible refine (bit_is b k true H1.out hb hlt _).mono ?_); rintro e w' ⟨rfl, rfl⟩) | ((with_reducible refine (bit_is a k false H2.out ha hlt _).mono ?_); rintro e w' ⟨rfl, rfl⟩))
          go_ret
          exact ⟨by rw [HN.out]; rfl, rfl⟩
    · have HX := Lib.hid (covK a b k HA.out (by omega))
      go_wp2
      go_ret
      exact ⟨by rw [HX.out]; rfl, rfl⟩

/-- Has a mask all of these roles? -/
def hasB (m : Nat) (l : List Int) : Bool := rolesOk l && covB m (maskN l)
set_option maxRecDepth 100000 in
set_option maxHeartbeats 1600000 in
theorem has_any (m : Nat) (l : List Int) (i x s : Int) (A : Option Addr) (c : Nat) (w : World) (hm : m < 256) (hl : Rd w w.heap.size 1 A l.length (l.map (.int .i64))) (hn : l.length ≤ maxLen) :
    Calls Try.prog 58 #[.agg #[.int .i64 i, .int .i64 m, .int .i64 x, .int .i64 s], .slice A l.length c] w fun e w' => e = .returned (.bool (hasB m l)) ∧ Below w.heap.size w w' := by
  have H1 := Lib.hid (mask_any l A c (w.alloc (.cells #[.int .i64 i, .int .i64 m, .int .i64 x, .int .i64 s] 96)) ((hl.below ((Below.refl w.heap.size w).alloc (Nat.le_refl _) _)).more (by simp)) hn)
  have HB := Lib.hid ((Below.refl w.heap.size w).alloc (Nat.le_refl _) (.cells #[.int .i64 i, .int .i64 m, .int .i64 x, .int .i64 s] 96))
  clear hl hn
  cases ho : rolesOk l with
  | false =>
    have HO := Lib.hid ho
    clear ho
    go_enter Try.func58, Try.ntmps58
    go_wp2_with fail
    refine H1.out.mono ?_
    rintro e w' ⟨rfl, rfl⟩
    rw [HO.out, if_neg (by simp)]
    go_wp2_with fail
    go_ret
    exact ⟨by unfold hasB; rw [HO.out]; rfl, HB.out⟩
  | true =>
    have hq := maskN_lt l ((rolesOk_iff l).1 ho)
    have HO := Lib.hid ho
    clear ho
    go_enter Try.func58, Try.ntmps58
    go_wp2_with fail
    refine H1.out.mono ?_
    rintro e w' ⟨rfl, rfl⟩
    rw [HO.out, if_pos rfl]
    go_wp2_with fail
    refine (covers_any m (maskN l) hm hq _).mono ?_
    rintro e w' ⟨rfl, rfl⟩
    go_wp2_with fail
    go_ret
    exact ⟨by unfold hasB; rw [HO.out]; rfl, HB.out⟩

theorem roles_none (a : Int) (h : a < 0 ∨ 256 ≤ a) (w : World) : Calls Try.prog 52 #[.int .i64 a] w fun e w' => e = .returned (.slice none 0 0) ∧ w = w' := by
  rcases h with h | h
  · go_enter Try.func52, Try.ntmps52
    go_wp2
    go_ret
    exact ⟨rfl, rfl⟩
  · have h0 : 0 ≤ a := by omega
    go_enter Try.func52, Try.ntmps52
    go_wp2
    go_ret
    exact ⟨rfl, rfl⟩

theorem to05 (i r x s : Int) (w : World) : Calls Try.prog 57 #[.agg #[.int .i64 i, .int .i64 r, .int .i64 x, .int .i64 s]] w fun e w' => e = .returned (.agg #[.int .i64 i, .int .i64 r, .int .i64 x, .int .i64 s]) ∧ Below w.heap.size w w' := by
  go_enter Try.func57, Try.ntmps57
  go_wp2
  exact bodyPost_ret (v := .agg #[.int .i64 i, .int .i64 r, .int .i64 x, .int .i64 s]) (by simp [results, Try.results57, go_sem]) rfl ⟨rfl, ((Below.refl _ _).alloc (Nat.le_refl _) _).alloc (by simp) _⟩

/-- Each of these roles, one by one. -/
def hasL (m : Nat) (l : List Int) : Bool := l.all fun r => decide (0 ≤ r ∧ r < 8) && m.testBit r.toNat
theorem hasL_snoc (m : Nat) (l : List Int) (r : Int) : hasL m (l ++ [r]) = (hasL m l && (decide (0 ≤ r ∧ r < 8) && m.testBit r.toNat)) := by simp [hasL]
theorem rolesOk_snoc (l : List Int) (r : Int) : rolesOk (l ++ [r]) = (rolesOk l && decide (0 ≤ r ∧ r < 8)) := by simp [rolesOk]
theorem hasL_rolesOk {m : Nat} {l : List Int} (h : rolesOk l = false) : hasL m l = false := by
  rw [Bool.eq_false_iff] at h ⊢
  intro hh
  refine h ((rolesOk_iff l).2 fun r hr => ?_)
  have := (List.all_eq_true.1 hh) r hr
  simp at this
  exact this.1
theorem hasL_eq (m : Nat) (l : List Int) : hasL m l = hasB m l := by
  unfold hasB
  cases ho : rolesOk l with
  | false => rw [hasL_rolesOk ho]; rfl
  | true =>
    have hr := (rolesOk_iff l).1 ho
    rw [Bool.true_and, Bool.eq_iff_iff, covB_iff]
    unfold hasL
    rw [List.all_eq_true]
    constructor
    · intro h q hq hb
      have h1 := h (q : Int) ((maskN_bit l (fun r h => (hr r h).1) q).1 hb)
      simp at h1
      exact h1.2
    · intro h r hl
      obtain ⟨h1, h2⟩ := hr r hl
      have h3 := h r.toNat (by omega) ((maskN_bit l (fun r h => (hr r h).1) r.toNat).2 (by rw [show (r.toNat : Int) = r by omega]; exact hl))
      simp [h1, h2, h3]
theorem rolesK_get {m k : Nat} (hb : m.testBit k = true) (j : Nat) (hj : k + 1 ≤ j) : (rolesK m j)[(rolesK m k).length]? = some (k : Int) := by
  induction j with
  | zero => omega
  | succ j ih =>
    rw [rolesK_succ]
    rcases Nat.eq_or_lt_of_le hj with e | h
    · have : j = k := by omega
      subst this
      rw [if_pos hb]
      simp
    · have h2 := ih (by omega)
      split
      · rw [List.getElem?_append_left (List.getElem?_eq_some_iff.1 h2).1]; exact h2
      · exact h2
theorem rolesN_get {m k : Nat} (hb : m.testBit k = true) (hk : k < 8) : (rolesN m)[(rolesK m k).length]? = some (k : Int) := rolesK_get hb 8 hk
end Go.Proofs.Ytidphalfafaniaa
