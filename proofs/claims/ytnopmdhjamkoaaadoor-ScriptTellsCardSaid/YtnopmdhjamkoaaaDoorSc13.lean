/- slices.Contains over ints; Touches. -/
import Derived.Test.YtnopmdhjamkoaaaDoorSc12
namespace Go.Proofs.YtnopmdhjamkoaaaDoor
set_option linter.unusedVariables false
set_option linter.unusedSimpArgs false
open Go.RowKit

abbrev iv31 (ks : List Int) : List Value := ks.map (Value.int .i64)
set_option maxRecDepth 100000 in
set_option maxHeartbeats 1000000 in
theorem index31_any (w : World) (B : Nat) (A : Option Addr) (c : Nat) (ks : List Int) (v : Int) (hr : Rd w B 1 A ks.length (iv31 ks)) (hn : ks.length ≤ 1000000) :
    Calls Tryd.prog 84 #[.slice A ks.length c, .int .i64 v] w fun r w' => ∃ z, r = .returned (.int .i64 z) ∧ decide (0 ≤ z) = ks.contains v ∧ w = w' := by
  obtain ⟨n, hN⟩ : ∃ n, ks.length = n := ⟨_, rfl⟩
  have HN := Lib.hid hN
  have HR := Lib.hid hr
  rw [hN] at hn ⊢
  clear hN hr
  go_enter Tryd.func84, Tryd.ntmps84
  go_wp2_with fail
  go_loopg [8] n (fun gg s8 wr => ∃ k : Nat, k + gg = n ∧ s8 = .int .i64 k ∧ Hid (∀ x ∈ ks.take k, x ≠ v) ∧ w = wr)
  case atStart => exact ⟨0, by omega, rfl, Lib.hid (by simp), rfl⟩
  case round =>
    obtain ⟨k, hk, rfl, hd, rfl⟩ := hrel
    by_cases hlt : k < n
    · obtain ⟨x, hx⟩ : ∃ e, ks[k]? = some e := ⟨_, List.getElem?_eq_getElem (by rw [HN.out]; exact hlt)⟩
      obtain ⟨b, o, rfl, hb, hc⟩ := HR.out.2 (by rw [HN.out]; omega)
      have q0 := hc k (.int .i64 x) (by simp [iv31, hx])
      have HX := Lib.hid hx
      have i1 : (k : Int) < n := by omega
      have i2 : (0 : Int) ≤ k := by omega
      have i3 : (n : Int) ≤ 1000000 := by omega
      clear hx hc hb
      by_cases he : v = x
      · subst he
        have HX2 := Lib.hid (show decide ((0 : Int) ≤ (k : Int)) = ks.contains v by
          rw [decide_eq_true i2, Eq.comm, List.contains_iff_mem]
          exact List.mem_of_getElem? HX.out)
        have hv : (v == v) = true := by simp
        clear hd
        go_wp2
        try rw [Exit.noGoto_ret]
        go_ret
        exact ⟨_, rfl, HX2.out, rfl⟩
      · have hv : (v == x) = false := by simpa using he
        have HV := Lib.hid he
        clear he
        go_wp2_with fail
        go_roundg (n - (k + 1))
        case measure => exact meas hk hlt
        case rel => exact ⟨k + 1, meas2 hlt, by go_num, Lib.hid (by
          intro y hy
          rw [List.take_add_one, HX.out] at hy
          rcases List.mem_append.1 hy with hy | hy
          · exact hd.out y hy
          · obtain rfl : y = x := by simpa using hy
            exact fun h => HV.out h.symm), rfl⟩
    · obtain rfl : k = n := by omega
      have HX := Lib.hid (show decide ((0 : Int) ≤ -1) = ks.contains v by
        have h := hd.out
        rw [List.take_of_length_le (by rw [HN.out]; exact Nat.le_refl _)] at h
        cases hcv : ks.contains v
        · rfl
        · rw [List.contains_iff_mem] at hcv
          exact absurd rfl (h v hcv))
      clear hd hk hlt
      go_wp2
      go_ret
      exact ⟨_, rfl, HX.out, rfl⟩
theorem contains31_any (w : World) (B : Nat) (A : Option Addr) (c : Nat) (ks : List Int) (v : Int) (hr : Rd w B 1 A ks.length (iv31 ks)) (hn : ks.length ≤ 1000000) :
    Calls Tryd.prog 54 #[.slice A ks.length c, .int .i64 v] w fun r w' => r = .returned (.bool (ks.contains v)) ∧ w = w' := by
  have HI := Lib.hid (index31_any w B A c ks v hr hn)
  clear hr
  go_enter Tryd.func54, Tryd.ntmps54
  go_wp2_with fail
  refine HI.out.mono ?_
  rintro r w1 ⟨z, rfl, hz, rfl⟩
  have HZ := Lib.hid hz
  clear hz
  go_wp2
  go_ret
  exact ⟨by rw [← HZ.out]; rfl, rfl⟩

set_option maxRecDepth 100000 in
theorem touches31_any (k : Int) (w : World) : Calls Tryd.prog 43 #[.int .i64 k] w fun r w' => r = .returned (.bool ([2, 6, 7, 8, 9].contains k)) ∧ Below w.heap.size w w' := by
  have hr := Rd.new1 w #[.int .i64 2, .int .i64 6, .int .i64 7, .int .i64 8, .int .i64 9] 3 (size := 1) (n := 5) rfl
  have HC := Lib.hid (contains31_any _ _ _ 5 [2, 6, 7, 8, 9] k hr (by decide))
  have HB := Lib.hid ((Below.refl w.heap.size w).alloc (Nat.le_refl _) (.cells #[.int .i64 2, .int .i64 6, .int .i64 7, .int .i64 8, .int .i64 9] 3))
  obtain ⟨V, hV⟩ : ∃ V, ([2, 6, 7, 8, 9] : List Int).contains k = V := ⟨_, rfl⟩
  rw [hV] at HC ⊢
  clear hr hV
  go_enter Tryd.func43, Tryd.ntmps43
  go_wp2_with fail
  refine (HC.out).mono ?_
  rintro r w1 ⟨rfl, rfl⟩
  go_wp2
  go_ret
  exact ⟨rfl, HB.out⟩
end Go.Proofs.YtnopmdhjamkoaaaDoor
