/- The document's layer 4: Width, Get of a number, Out of a number. -/
import Derived.Test.YtghcdffpplimoaaRd2
import Derived.Test.YtghcdffpplimoaaWireS
namespace Go.Proofs.Ytghcdffpplimoaa
set_option linter.unusedVariables false
open Go.RowKit

theorem refwidth_is (s : Int) (h0 : 0 ≤ s) (h1 : s ≤ 3) (w : World) : Calls Try.prog 104 #[.int .i64 s] w fun e w' => e = .returned (.int .i64 (widB s : Nat)) ∧ w = w' := by
  have i0 : ∀ w, (Instr.index 138 (.agg #[.int .i64 1, .int .i64 2, .int .i64 4, .int .i64 8]) (.int .i64 0)).run Try.prog w = .ok (.int .i64 1) w := fun _ => by kernel_rfl
  have i1 : ∀ w, (Instr.index 138 (.agg #[.int .i64 1, .int .i64 2, .int .i64 4, .int .i64 8]) (.int .i64 1)).run Try.prog w = .ok (.int .i64 2) w := fun _ => by kernel_rfl
  have i2 : ∀ w, (Instr.index 138 (.agg #[.int .i64 1, .int .i64 2, .int .i64 4, .int .i64 8]) (.int .i64 2)).run Try.prog w = .ok (.int .i64 4) w := fun _ => by kernel_rfl
  have i3 : ∀ w, (Instr.index 138 (.agg #[.int .i64 1, .int .i64 2, .int .i64 4, .int .i64 8]) (.int .i64 3)).run Try.prog w = .ok (.int .i64 8) w := fun _ => by kernel_rfl
  have hs : s = 0 ∨ s = 1 ∨ s = 2 ∨ s = 3 := by omega
  clear h0 h1
  rcases hs with rfl | rfl | rfl | rfl
  all_goals
    go_enter Try.func104, Try.ntmps104
    go_wp2
    go_ret
    exact ⟨rfl, rfl⟩

/-- What the document's Get hands out for a number's size. -/
def g4 (l : List UInt8) (s : Int) : Value := if l.length < widB s then .tuple #[.agg #[.int .i64 0, .int .i64 0, .slice none 0 0], .int .i64 0, .int .i64 4] else .tuple #[.agg #[.int .i64 s, .int .i64 (valB (l.take (widB s)) : Nat), .slice none 0 0], .int .i64 (widB s : Nat), .int .i64 0]
theorem valB_lt32 (l : List UInt8) (h : l.length ≤ 4) : valB l < 4294967296 := by
  have h1 := valB_lt l
  have h2 : 256 ^ l.length ≤ 256 ^ 4 := Nat.pow_le_pow_right (by decide) h
  have h3 : 256 ^ 4 = 4294967296 := by decide
  omega

set_option maxRecDepth 100000 in
set_option maxHeartbeats 3200000 in
theorem refget_num (w : World) (A : Option Addr) (c : Nat) (l : List UInt8) (hl : RB w w.heap.size A l) (hn : l.length ≤ 1000000) (s : Int) (h0 : 0 ≤ s) (h2 : s ≤ 2) :
    Calls Try.prog 86 #[.slice A l.length c, .int .i64 s] w fun e w' => e = .returned (g4 l s) ∧ Below w.heap.size w w' := by
  have h3 : (s == 3) = false := by rw [beq_eq_false_iff_ne]; omega
  have HW := Lib.hid (refwidth_is s h0 (by omega))
  have hb := (Below.refl w.heap.size w).alloc (Nat.le_refl _) (.cells #[.int .i64 0, .int .i64 0, .slice none 0 0] 140)
  have HB := Lib.hid hb
  have HL := Lib.hid hl
  obtain ⟨n, hn'⟩ : ∃ n, widB s = n := ⟨_, rfl⟩
  have hn4 : n ≤ 4 := by
    rw [← hn']; unfold widB
    (repeat' split) <;> omega
  rw [hn'] at HW
  have HN := Lib.hid hn'
  clear hl hb hn'
  by_cases hlt : l.length < n
  · have HG := Lib.hid (show g4 l s = .tuple #[.agg #[.int .i64 0, .int .i64 0, .slice none 0 0], .int .i64 0, .int .i64 4] by unfold g4; rw [HN.out, if_pos hlt])
    go_enter Try.func86, Try.ntmps86
    go_wp2_with fail
    refine (HW.out _).mono ?_
    rintro e w' ⟨rfl, rfl⟩
    go_wp2_with fail
    refine bodyPost_ret (v := .tuple #[.agg #[.int .i64 0, .int .i64 0, .slice none 0 0], .int .i64 0, .int .i64 4]) (by simp [results, Try.results86, go_sem]) rfl ⟨by rw [HG.out], ?_⟩
    exact (Below.refl _ _).alloc (Nat.le_refl _) _
  · have HG := Lib.hid (show g4 l s = .tuple #[.agg #[.int .i64 s, .int .i64 (valB (l.take n) : Nat), .slice none 0 0], .int .i64 n, .int .i64 0] by unfold g4; rw [HN.out, if_neg hlt])
    go_enter Try.func86, Try.ntmps86
    go_wp2_with fail
    refine (HW.out _).mono ?_
    rintro e w' ⟨rfl, rfl⟩
    go_wp2_with fail
    go_loopg [8, 9] n (fun gg s8 s9 wr => ∃ k : Nat, k + gg = n ∧ s9 = .int .i64 k ∧ s8 = .int .i64 (valB (l.take k) : Nat) ∧ wr = w.alloc (.cells #[.int .i64 0, .int .i64 0, .slice none 0 0] 140))
    case atStart => exact ⟨0, by omega, rfl, rfl, rfl⟩
    case round =>
      obtain ⟨k, hk, rfl, rfl, rfl⟩ := hrel
      by_cases hlk : k < n
      · obtain ⟨x, hx⟩ : ∃ x, l[k]? = some x := ⟨_, List.getElem?_eq_getElem (by omega)⟩
        obtain ⟨bb, o, rfl, hbb, hc⟩ := RB.at_ HL.out (by omega)
        have d0 := hc k x hx
        have ht : l.take (k + 1) = l.take k ++ [x] := by rw [List.take_add_one, hx]; rfl
        obtain ⟨V, hV⟩ : ∃ V, valB (l.take k) = V := ⟨_, rfl⟩
        have hV32 : V < 4294967296 := by rw [← hV]; exact valB_lt32 _ (by simp; omega)
        have hx8 := x.toNat_lt
        have HX := Lib.hid (show valB (l.take (k + 1)) = V * 256 + x.toNat by rw [ht, valB_snoc, hV])
        rw [hV]
        clear hc hx ht hV
        have i1 : (k : Int) < (l.length : Int) := by omega
        have i2 : (0 : Int) ≤ (k : Int) := by omega
        go_wp2_with fail
        go_roundg (n - (k + 1))
        case measure => exact meas hk hlk
        case rel => exact ⟨k + 1, meas2 hlk, by go_num, by rw [HX.out]; go_num, rfl⟩
      · obtain rfl : k = n := by omega
        go_wp2_with fail
        refine bodyPost_ret (v := .tuple #[.agg #[.int .i64 s, .int .i64 (valB (l.take k) : Nat), .slice none 0 0], .int .i64 k, .int .i64 0]) (by simp [results, Try.results86, go_sem]) rfl ⟨by rw [HG.out], ?_⟩
        exact (Below.refl _ _).alloc (Nat.le_refl _) _
end Go.Proofs.Ytghcdffpplimoaa
