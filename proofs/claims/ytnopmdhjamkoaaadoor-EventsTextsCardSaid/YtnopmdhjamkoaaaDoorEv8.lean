/- Contracts of package events: such's closure over Since's and Of's. -/
import Derived.Test.YtnopmdhjamkoaaaDoorEv7
namespace Go.Proofs.YtnopmdhjamkoaaaDoor
set_option linter.unusedVariables false
set_option linter.unusedSimpArgs false
open Go.RowKit

theorem and_i64z (m k : Nat) (hm : m < 256) : (bits .and .i64 ((m : Int) / 2 ^ k) 1 == 0) = !m.testBit k := by
  have h0 : (m : Int) / 2 ^ k = ((m / 2 ^ k : Nat) : Int) := by simp
  have h1 : m / 2 ^ k ≤ m := Nat.div_le_self _ _
  rw [h0, show (1 : Int) = ((1 : Nat) : Int) from rfl, (bits_nat .i64 63 (by decide) (fun n h0 h1 => by rw [IntKind.wrap_i64]; omega) (m / 2 ^ k) 1 (by omega) (by omega)).1, Nat.testBit_eq_decide_div_mod_eq, Nat.and_one_is_mod, Bool.eq_iff_iff]
  simp only [beq_iff_eq, Bool.not_eq_true', decide_eq_false_iff_not]
  omega
/-- One is not told of it, or it is not such. -/
def sD (m : Nat) (is : Ev → Bool) (e : Ev) : Bool := (e.k == 4 && !m.testBit e.r.toNat) || !is e
set_option maxHeartbeats 1000000 in
theorem such1_since (w : World) (e : Ev) (m : Nat) (hm : m < 256) (hr0 : 0 ≤ e.r) (hr8 : e.r < 8) (b1 b2 bq : Nat) (t : Int)
    (h1 : w.cell? ⟨b1, 0, none⟩ = some (.int .i64 m)) (h2 : w.cell? ⟨b2, 0, none⟩ = some (.func (Fn.func 55) #[] #[.pointer (some ⟨bq, 0, none⟩)])) (hq : w.cell? ⟨bq, 0, none⟩ = some (.int .i64 t)) :
    Calls Tryd.prog 83 #[e.v, .pointer (some ⟨b1, 0, none⟩), .pointer (some ⟨b2, 0, none⟩)] w fun r w' => r = .returned (.bool (sD m (fun e => decide (t ≤ e.t)) e)) ∧ Below w.heap.size w w' := by
  obtain ⟨et, ek, ei, er⟩ := e
  simp only at hr0 hr8
  obtain ⟨R, rfl⟩ := Int.eq_ofNat_of_zero_le hr0
  have bb := (Below.refl w.heap.size w).alloc (Nat.le_refl _) (.cells #[.int .i64 et, .int .i64 ek, .int .i64 ei, .int .i64 (R : Int)] 30)
  have c1 := bb.cell (p := ⟨b1, 0, none⟩) (block_lt_of_cell h1)
  rw [h1] at c1
  have c2 := bb.cell (p := ⟨b2, 0, none⟩) (block_lt_of_cell h2)
  rw [h2] at c2
  have c3 := bb.cell (p := ⟨bq, 0, none⟩) (block_lt_of_cell hq)
  rw [hq] at c3
  have HS := Lib.hid (since1_any _ ⟨et, ek, ei, (R : Int)⟩ ⟨bq, 0, none⟩ t c3 rfl)
  have HB := Lib.hid bb
  have hA := and_i64z m R hm
  have hR : (R : Int) < 64 := by omega
  have hR2 : R < 8 := by omega
  have hm2 : (m : Int) < 256 := by omega
  clear c3 bb h1 h2 hq hr8
  by_cases hk : ek = 4
  · subst hk
    cases hb : m.testBit R
    · rw [hb] at hA
      have HF := Lib.hid hb
      clear hb
      go_enter Tryd.func83, Tryd.ntmps83
      go_wp2
      go_ret
      exact ⟨by simp [sD, HF.out], HB.out⟩
    · rw [hb] at hA
      have HF := Lib.hid hb
      clear hb
      go_enter Tryd.func83, Tryd.ntmps83
      go_wp2_with fail
      refine HS.out.mono ?_
      rintro r w2 ⟨rfl, hb⟩
      have HB2 := Lib.hid hb
      clear hb
      go_wp2
      go_ret
      exact ⟨by simp [sD, HF.out], HB.out.trans (HB2.out.mono (by simp))⟩
  · have hk2 : (ek == 4) = false := by simpa using hk
    clear hA
    go_enter Tryd.func83, Tryd.ntmps83
    go_wp2_with fail
    refine HS.out.mono ?_
    rintro r w2 ⟨rfl, hb⟩
    have HB2 := Lib.hid hb
    clear hb
    go_wp2
    go_ret
    exact ⟨by simp [sD, hk], HB.out.trans (HB2.out.mono (by simp))⟩
set_option maxHeartbeats 1000000 in
theorem such1_of (w : World) (e : Ev) (m : Nat) (hm : m < 256) (hr0 : 0 ≤ e.r) (hr8 : e.r < 8) (b1 b2 bq : Nat) (t : Int)
    (h1 : w.cell? ⟨b1, 0, none⟩ = some (.int .i64 m)) (h2 : w.cell? ⟨b2, 0, none⟩ = some (.func (Fn.func 56) #[] #[.pointer (some ⟨bq, 0, none⟩)])) (hq : w.cell? ⟨bq, 0, none⟩ = some (.int .i64 t)) :
    Calls Tryd.prog 83 #[e.v, .pointer (some ⟨b1, 0, none⟩), .pointer (some ⟨b2, 0, none⟩)] w fun r w' => r = .returned (.bool (sD m (fun e => e.i == t) e)) ∧ Below w.heap.size w w' := by
  obtain ⟨et, ek, ei, er⟩ := e
  simp only at hr0 hr8
  obtain ⟨R, rfl⟩ := Int.eq_ofNat_of_zero_le hr0
  have bb := (Below.refl w.heap.size w).alloc (Nat.le_refl _) (.cells #[.int .i64 et, .int .i64 ek, .int .i64 ei, .int .i64 (R : Int)] 30)
  have c1 := bb.cell (p := ⟨b1, 0, none⟩) (block_lt_of_cell h1)
  rw [h1] at c1
  have c2 := bb.cell (p := ⟨b2, 0, none⟩) (block_lt_of_cell h2)
  rw [h2] at c2
  have c3 := bb.cell (p := ⟨bq, 0, none⟩) (block_lt_of_cell hq)
  rw [hq] at c3
  have HS := Lib.hid (of1_any _ ⟨et, ek, ei, (R : Int)⟩ ⟨bq, 0, none⟩ t c3 rfl)
  have HB := Lib.hid bb
  have hA := and_i64z m R hm
  have hR : (R : Int) < 64 := by omega
  have hR2 : R < 8 := by omega
  have hm2 : (m : Int) < 256 := by omega
  clear c3 bb h1 h2 hq hr8
  by_cases hk : ek = 4
  · subst hk
    cases hb : m.testBit R
    · rw [hb] at hA
      have HF := Lib.hid hb
      clear hb
      go_enter Tryd.func83, Tryd.ntmps83
      go_wp2
      go_ret
      exact ⟨by simp [sD, HF.out], HB.out⟩
    · rw [hb] at hA
      have HF := Lib.hid hb
      clear hb
      go_enter Tryd.func83, Tryd.ntmps83
      go_wp2_with fail
      refine HS.out.mono ?_
      rintro r w2 ⟨rfl, hb⟩
      have HB2 := Lib.hid hb
      clear hb
      go_wp2
      go_ret
      exact ⟨by simp [sD, HF.out], HB.out.trans (HB2.out.mono (by simp))⟩
  · have hk2 : (ek == 4) = false := by simpa using hk
    clear hA
    go_enter Tryd.func83, Tryd.ntmps83
    go_wp2_with fail
    refine HS.out.mono ?_
    rintro r w2 ⟨rfl, hb⟩
    have HB2 := Lib.hid hb
    clear hb
    go_wp2
    go_ret
    exact ⟨by simp [sD, hk], HB.out.trans (HB2.out.mono (by simp))⟩
end Go.Proofs.YtnopmdhjamkoaaaDoor
