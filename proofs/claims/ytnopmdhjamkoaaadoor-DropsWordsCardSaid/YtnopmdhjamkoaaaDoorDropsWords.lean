/-
  vigillaw13.DropsWords returns true, whatever it is called with, where the table strings.asciiSpace holds what the program's text lays there.
-/
import Derived.Test.YtnopmdhjamkoaaaDoorDw1
import Derived.Test.YtnopmdhjamkoaaaDoorOpenA
namespace Go.Proofs.YtnopmdhjamkoaaaDoor
set_option linter.unusedVariables false
set_option linter.unusedSimpArgs false
open Go.RowKit

theorem eq_z16 (w : World) : (binOp .eql 47 (.agg z16) (.agg z16)).run Tryd.prog w = .ok (.bool true) w := by kernel_rfl
theorem build_z16 (w : World) : (Instr.build 47 #[]).run Tryd.prog w = .ok (.agg z16) w := by kernel_rfl
set_option maxRecDepth 100000 in
set_option maxHeartbeats 4000000 in
theorem dropsWords_main (W : World) (e : Int) (hT : ∀ w, Below W.heap.size W w → Lib.TabIs Tryd.prog w "strings.asciiSpace" .u8 Lib.asciiSpaceTab) :
    Calls Tryd.prog 4 #[.int .i64 e] W fun r W' => r = .returned (.bool true) ∧ Below W.heap.size W W' := by
  have HT := Lib.hid hT
  clear hT
  have hbt := build_z16
  have heq := eq_z16
  obtain ⟨s, hw, hcase⟩ : ∃ s : ByteArray, (∀ w, Below W.heap.size W w → Calls Tryd.prog 23 #[.int .i64 e] w fun r w' => r = .returned (.string s) ∧ Below w.heap.size w w') ∧
      ((∃ k : Nat, e = (k : Int) + 1 ∧ k < 15 ∧ ∀ w, (Instr.index 38 (.agg ws16) (.int .i64 ((k : Int) + 1))).run Tryd.prog w = .ok (.string s) w) ∨ (s = ⟨#[]⟩ ∧ (e ≤ 0 ∨ (0 < e ∧ 16 ≤ e)))) := by
    by_cases h : 1 ≤ e ∧ e ≤ 15
    · refine ⟨wB (e - 1).toNat, fun w hb => ?_, .inl ⟨(e - 1).toNat, by omega, by omega, fun w => idx16 _ (by omega) w⟩⟩
      have := word13_yes (e - 1).toNat (by omega) w (fun w' hb' => HT.out w' (Bsz hb hb')) _ rfl
      rw [show ((e - 1).toNat : Int) + 1 = e by omega] at this
      exact this
    · refine ⟨⟨#[]⟩, fun w hb => ?_, .inr ⟨rfl, by omega⟩⟩
      exact word13_no e h w
  have HW := Lib.hid hw
  have hss : (s == s) = true := by
    show (s.data == s.data) = true
    simp
  clear hw
  have B0 := Lib.hid (Below.refl W.heap.size W)
  have tail : ∀ w1 : World, True := fun _ => trivial
  clear tail
  rcases hcase with ⟨k, rfl, hk, hix⟩ | ⟨rfl, hc⟩
  · have i1 : (k : Int) + 1 < 16 := by omega
    have i2 : (0 : Int) < (k : Int) + 1 := by omega
    go_enter Tryd.func4, Tryd.ntmps4
    go_wp2_with fail
    refine (refwords13 _).mono ?_
    rintro r w1 ⟨rfl, hb⟩
    have B1 := Lib.hid hb
    clear hb
    go_wp2_with fail
    refine (worst13_nil _).mono ?_
    rintro r w2 ⟨rfl, hb⟩
    have B1 := Lib.hid (Bsz B1.out hb)
    clear hb
    go_wp2_with fail
    refine (known13 _).mono ?_
    rintro r w3 ⟨rfl, hb⟩
    have B1 := Lib.hid (Bsz B1.out hb)
    clear hb
    go_wp2_with fail
    refine (HW.out _ B1.out).mono ?_
    rintro r w4 ⟨rfl, hb⟩
    have B1 := Lib.hid (Bsz B1.out hb)
    clear hb
    have B1 := Lib.hid (B1.out.alloc B1.out.size (.cells #[.int .i64 3] 41))
    go_wp2_with fail
    refine (count13_nil _ _ _ _).mono ?_
    rintro r w5 ⟨rfl, rfl⟩
    go_wp2_with fail
    refine (of13_nil _ _).mono ?_
    rintro r w6 ⟨rfl, hb⟩
    have B1 := Lib.hid (Bsz B1.out hb)
    clear hb
    go_wp2_with fail
    refine (total13_nil _).mono ?_
    rintro r w7 ⟨rfl, hb⟩
    have B1 := Lib.hid (Bsz B1.out hb)
    clear hb
    go_wp2_with fail
    refine (all13_nil _).mono ?_
    rintro r w8 ⟨rfl, hb⟩
    have B1 := Lib.hid (Bsz B1.out hb)
    clear hb
    go_wp2_with fail
    refine (join13_nn _).mono ?_
    rintro r w9 ⟨rfl, hb⟩
    have B1 := Lib.hid (Bsz B1.out hb)
    clear hb
    go_wp2_with fail
    refine (copy13_nil _).mono ?_
    rintro r w10 ⟨rfl, rfl⟩
    go_wp2_with fail
    refine (same13_nn _).mono ?_
    rintro r w11 ⟨rfl, rfl⟩
    go_wp2
    go_ret
    exact ⟨rfl, B1.out⟩
  · rcases hc with hc | ⟨hc1, hc2⟩
    all_goals (
      have B1 := B0
      go_enter Tryd.func4, Tryd.ntmps4
      go_wp2_with fail
      refine (worst13_nil _).mono ?_
      rintro r w2 ⟨rfl, hb⟩
      have B1 := Lib.hid (Bsz B1.out hb)
      clear hb
      go_wp2_with fail
      refine (known13 _).mono ?_
      rintro r w3 ⟨rfl, hb⟩
      have B1 := Lib.hid (Bsz B1.out hb)
      clear hb
      go_wp2_with fail
      refine (HW.out _ B1.out).mono ?_
      rintro r w4 ⟨rfl, hb⟩
      have B1 := Lib.hid (Bsz B1.out hb)
      clear hb
      have B1 := Lib.hid (B1.out.alloc B1.out.size (.cells #[.int .i64 3] 41))
      go_wp2_with fail
      refine (count13_nil _ _ _ _).mono ?_
      rintro r w5 ⟨rfl, rfl⟩
      go_wp2_with fail
      refine (of13_nil _ _).mono ?_
      rintro r w6 ⟨rfl, hb⟩
      have B1 := Lib.hid (Bsz B1.out hb)
      clear hb
      go_wp2_with fail
      refine (total13_nil _).mono ?_
      rintro r w7 ⟨rfl, hb⟩
      have B1 := Lib.hid (Bsz B1.out hb)
      clear hb
      go_wp2_with fail
      refine (all13_nil _).mono ?_
      rintro r w8 ⟨rfl, hb⟩
      have B1 := Lib.hid (Bsz B1.out hb)
      clear hb
      go_wp2_with fail
      refine (join13_nn _).mono ?_
      rintro r w9 ⟨rfl, hb⟩
      have B1 := Lib.hid (Bsz B1.out hb)
      clear hb
      go_wp2_with fail
      refine (copy13_nil _).mono ?_
      rintro r w10 ⟨rfl, rfl⟩
      go_wp2_with fail
      refine (same13_nn _).mono ?_
      rintro r w11 ⟨rfl, rfl⟩
      go_wp2
      go_ret
      exact ⟨rfl, B1.out⟩)
theorem contract_dropsWords (W : World) (v0 : Value) (a0 : ∃ z, v0 = .int .i64 z ∧ in64 z) (hT : ∀ w, Below W.heap.size W w → Lib.TabIs Tryd.prog w "strings.asciiSpace" .u8 Lib.asciiSpaceTab) :
    Calls Tryd.prog 4 #[v0] W fun r W' => r = .returned (.bool true) ∧ Below W.heap.size W W' := by
  obtain ⟨e, rfl, -⟩ := a0
  exact dropsWords_main W e hT
end Go.Proofs.YtnopmdhjamkoaaaDoor
