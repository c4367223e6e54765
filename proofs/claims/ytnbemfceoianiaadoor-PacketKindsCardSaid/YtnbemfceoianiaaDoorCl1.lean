/- Contracts of package claims: spans, Check. -/
import Derived.Test.YtnbemfceoianiaaDoorWireX
namespace Go.Proofs.YtnbemfceoianiaaDoor
set_option linter.unusedVariables false
open Go.RowKit

/-- A claim's numbers, and from where to where each may be. -/
def spansV (i r x s : Int) : Value := .agg #[.int .i64 i, .int .i64 1, .int .i64 65535, .int .i64 r, .int .i64 0, .int .i64 255, .int .i64 x, .int .i64 0, .int .i64 1073741824, .int .i64 s, .int .i64 1, .int .i64 65535]

set_option maxRecDepth 100000 in
set_option maxHeartbeats 1600000 in
theorem spans_any (i r x s : Int) (w : World) :
    Calls Tryd.prog 33 #[.agg #[.int .i64 i, .int .i64 r, .int .i64 x, .int .i64 s]] w fun e w' => e = .returned (spansV i r x s) ∧ Below w.heap.size w w' := by
  go_enter Tryd.func33, Tryd.ntmps33
  go_wp2_with fail
  exact bodyPost_ret (v := spansV i r x s) (by simp [results, Tryd.results33, go_sem, spansV]) rfl ⟨rfl, ((Below.refl _ _).alloc (Nat.le_refl _) _).alloc (by simp) _⟩

/-- Are claims right? -/
def clOk (i r x s : Int) : Prop := (1 ≤ i ∧ i ≤ 65535) ∧ (0 ≤ r ∧ r ≤ 255) ∧ (0 ≤ x ∧ x ≤ 1073741824) ∧ (1 ≤ s ∧ s ≤ 65535)
def clR (i r x s : Int) (W : World) (k : Nat) (w : World) : Prop := Below W.heap.size W w ∧ (0 < k → 1 ≤ i ∧ i ≤ 65535) ∧ (1 < k → 0 ≤ r ∧ r ≤ 255) ∧ (2 < k → 0 ≤ x ∧ x ≤ 1073741824) ∧ (3 < k → 1 ≤ s ∧ s ≤ 65535)
def clPost (i r x s : Int) (W : World) (e : Ending) (w' : World) : Prop := ((clOk i r x s ∧ e = .returned (.int .i64 0)) ∨ (¬ clOk i r x s ∧ e = .returned (.int .i64 10))) ∧ Below W.heap.size W w'

set_option maxRecDepth 100000 in
set_option maxHeartbeats 3200000 in
theorem clcheck_any (i r x s : Int) (w : World) :
    Calls Tryd.prog 26 #[.agg #[.int .i64 i, .int .i64 r, .int .i64 x, .int .i64 s]] w (clPost i r x s w) := by
  have i0 : ∀ w, (Instr.index 92 (spansV i r x s) (.int .i64 0)).run Tryd.prog w = .ok (.agg #[.int .i64 i, .int .i64 1, .int .i64 65535]) w := fun _ => by kernel_rfl
  have i1 : ∀ w, (Instr.index 92 (spansV i r x s) (.int .i64 1)).run Tryd.prog w = .ok (.agg #[.int .i64 r, .int .i64 0, .int .i64 255]) w := fun _ => by kernel_rfl
  have i2 : ∀ w, (Instr.index 92 (spansV i r x s) (.int .i64 2)).run Tryd.prog w = .ok (.agg #[.int .i64 x, .int .i64 0, .int .i64 1073741824]) w := fun _ => by kernel_rfl
  have i3 : ∀ w, (Instr.index 92 (spansV i r x s) (.int .i64 3)).run Tryd.prog w = .ok (.agg #[.int .i64 s, .int .i64 1, .int .i64 65535]) w := fun _ => by kernel_rfl
  go_enter Tryd.func26, Tryd.ntmps26
  go_wp2_with fail
  go_step3
  go_wp2_with fail
  go_step3
  go_wp2_with fail
  refine (spans_any i r x s _).mono ?_
  rintro e w1 ⟨rfl, hb1⟩
  have HB := Lib.hid (((Below.refl w.heap.size w).alloc (Nat.le_refl _) (.cells #[.int .i64 i, .int .i64 r, .int .i64 x, .int .i64 s] 27)).trans (hb1.mono (by simp)))
  clear hb1
  go_wp2_with fail
  go_loopg [7] 4 (fun gg s7 wr => ∃ k : Nat, k + gg = 4 ∧ s7 = .int .i64 k ∧ clR i r x s w k wr)
  case atStart => exact ⟨0, by omega, rfl, HB.out, by omega, by omega, by omega, by omega⟩
  case round =>
    obtain ⟨k, hk, rfl, hb, h0, h1, h2, h3⟩ := hrel
    have HB := Lib.hid hb
    clear hb
    have hc : k = 0 ∨ k = 1 ∨ k = 2 ∨ k = 3 ∨ k = 4 := by omega
    rcases hc with rfl | rfl | rfl | rfl | rfl
    · clear h0 h1 h2 h3
      have HA := Lib.hid (show Below w.heap.size w (wr.alloc (.cells #[.int .i64 i, .int .i64 1, .int .i64 65535] 91)) from HB.out.alloc HB.out.size _)
      by_cases a : 1 ≤ i
      · by_cases b : i ≤ 65535
        · go_wp2_with fail
          go_roundg 3
          case measure => omega
          case rel => exact ⟨1, by omega, by go_num, HA.out, fun _ => ⟨a, b⟩, by omega, by omega, by omega⟩
        · have HN : Hid (¬ clOk i r x s) := fun hh => b hh.1.2
          go_wp2
          try rw [Exit.noGoto_ret]
          go_ret
          exact ⟨.inr ⟨HN.out, rfl⟩, HA.out⟩
      · have HN : Hid (¬ clOk i r x s) := fun hh => a hh.1.1
        go_wp2
        try rw [Exit.noGoto_ret]
        go_ret
        exact ⟨.inr ⟨HN.out, rfl⟩, HA.out⟩
    · have G0 := Lib.hid (h0 (by omega))
      clear h0 h1 h2 h3
      have HA := Lib.hid (show Below w.heap.size w (wr.alloc (.cells #[.int .i64 r, .int .i64 0, .int .i64 255] 91)) from HB.out.alloc HB.out.size _)
      by_cases a : 0 ≤ r
      · by_cases b : r ≤ 255
        · go_wp2_with fail
          go_roundg 2
          case measure => omega
          case rel => exact ⟨2, by omega, by go_num, HA.out, fun _ => G0.out, fun _ => ⟨a, b⟩, by omega, by omega⟩
        · have HN : Hid (¬ clOk i r x s) := fun hh => b hh.2.1.2
          go_wp2
          try rw [Exit.noGoto_ret]
          go_ret
          exact ⟨.inr ⟨HN.out, rfl⟩, HA.out⟩
      · have HN : Hid (¬ clOk i r x s) := fun hh => a hh.2.1.1
        go_wp2
        try rw [Exit.noGoto_ret]
        go_ret
        exact ⟨.inr ⟨HN.out, rfl⟩, HA.out⟩
    · have G0 := Lib.hid (h0 (by omega))
      have G1 := Lib.hid (h1 (by omega))
      clear h0 h1 h2 h3
      have HA := Lib.hid (show Below w.heap.size w (wr.alloc (.cells #[.int .i64 x, .int .i64 0, .int .i64 1073741824] 91)) from HB.out.alloc HB.out.size _)
      by_cases a : 0 ≤ x
      · by_cases b : x ≤ 1073741824
        · go_wp2_with fail
          go_roundg 1
          case measure => omega
          case rel => exact ⟨3, by omega, by go_num, HA.out, fun _ => G0.out, fun _ => G1.out, fun _ => ⟨a, b⟩, by omega⟩
        · have HN : Hid (¬ clOk i r x s) := fun hh => b hh.2.2.1.2
          go_wp2
          try rw [Exit.noGoto_ret]
          go_ret
          exact ⟨.inr ⟨HN.out, rfl⟩, HA.out⟩
      · have HN : Hid (¬ clOk i r x s) := fun hh => a hh.2.2.1.1
        go_wp2
        try rw [Exit.noGoto_ret]
        go_ret
        exact ⟨.inr ⟨HN.out, rfl⟩, HA.out⟩
    · have G0 := Lib.hid (h0 (by omega))
      have G1 := Lib.hid (h1 (by omega))
      have G2 := Lib.hid (h2 (by omega))
      clear h0 h1 h2 h3
      have HA := Lib.hid (show Below w.heap.size w (wr.alloc (.cells #[.int .i64 s, .int .i64 1, .int .i64 65535] 91)) from HB.out.alloc HB.out.size _)
      by_cases a : 1 ≤ s
      · by_cases b : s ≤ 65535
        · go_wp2_with fail
          go_roundg 0
          case measure => omega
          case rel => exact ⟨4, by omega, by go_num, HA.out, fun _ => G0.out, fun _ => G1.out, fun _ => G2.out, fun _ => ⟨a, b⟩⟩
        · have HN : Hid (¬ clOk i r x s) := fun hh => b hh.2.2.2.2
          go_wp2
          try rw [Exit.noGoto_ret]
          go_ret
          exact ⟨.inr ⟨HN.out, rfl⟩, HA.out⟩
      · have HN : Hid (¬ clOk i r x s) := fun hh => a hh.2.2.2.1
        go_wp2
        try rw [Exit.noGoto_ret]
        go_ret
        exact ⟨.inr ⟨HN.out, rfl⟩, HA.out⟩
    · have HY := Lib.hid (show clOk i r x s from ⟨h0 (by omega), h1 (by omega), h2 (by omega), h3 (by omega)⟩)
      clear h0 h1 h2 h3
      go_wp2
      try rw [Exit.noGoto_ret]
      go_ret
      exact ⟨.inl ⟨HY.out, rfl⟩, HB.out⟩
end Go.Proofs.YtnbemfceoianiaaDoor
