/- The document's layer 5: Right, Parse; and the conversion to it. -/
import Derived.Test.YtnbemfceoianiaaRf4
import Derived.Test.YtnbemfceoianiaaCl5
namespace Go.Proofs.Ytnbemfceoianiaa
set_option linter.unusedVariables false
open Go.RowKit

set_option maxRecDepth 100000 in
set_option maxHeartbeats 3200000 in
theorem right05_any (i r x s : Int) (w : World) :
    Calls Try.prog 27 #[.agg #[.int .i64 i, .int .i64 r, .int .i64 x, .int .i64 s]] w fun e w' => e = .returned (.bool (decide (clOk i r x s))) ∧ Below w.heap.size w w' := by
  by_cases h0 : 0 < i
  case neg =>
    have HN := Lib.hid (show decide (clOk i r x s) = false from decide_eq_false (fun h => h0 (by have := h.1; have := h.2.1; have := h.2.2.1; have := h.2.2.2; omega)))
    go_enter Try.func27, Try.ntmps27
    go_wp2
    go_ret
    exact ⟨by rw [HN.out]; rfl, (Below.refl _ _).alloc (Nat.le_refl _) _⟩
  by_cases h1 : i < 65536
  case neg =>
    have HN := Lib.hid (show decide (clOk i r x s) = false from decide_eq_false (fun h => h1 (by have := h.1; have := h.2.1; have := h.2.2.1; have := h.2.2.2; omega)))
    go_enter Try.func27, Try.ntmps27
    go_wp2
    go_ret
    exact ⟨by rw [HN.out]; rfl, (Below.refl _ _).alloc (Nat.le_refl _) _⟩
  by_cases h2 : 0 ≤ r
  case neg =>
    have HN := Lib.hid (show decide (clOk i r x s) = false from decide_eq_false (fun h => h2 (by have := h.1; have := h.2.1; have := h.2.2.1; have := h.2.2.2; omega)))
    go_enter Try.func27, Try.ntmps27
    go_wp2
    go_ret
    exact ⟨by rw [HN.out]; rfl, (Below.refl _ _).alloc (Nat.le_refl _) _⟩
  by_cases h3 : r < 256
  case neg =>
    have HN := Lib.hid (show decide (clOk i r x s) = false from decide_eq_false (fun h => h3 (by have := h.1; have := h.2.1; have := h.2.2.1; have := h.2.2.2; omega)))
    go_enter Try.func27, Try.ntmps27
    go_wp2
    go_ret
    exact ⟨by rw [HN.out]; rfl, (Below.refl _ _).alloc (Nat.le_refl _) _⟩
  by_cases h4 : 0 ≤ x
  case neg =>
    have HN := Lib.hid (show decide (clOk i r x s) = false from decide_eq_false (fun h => h4 (by have := h.1; have := h.2.1; have := h.2.2.1; have := h.2.2.2; omega)))
    go_enter Try.func27, Try.ntmps27
    go_wp2
    go_ret
    exact ⟨by rw [HN.out]; rfl, (Below.refl _ _).alloc (Nat.le_refl _) _⟩
  by_cases h5 : x ≤ 1073741824
  case neg =>
    have HN := Lib.hid (show decide (clOk i r x s) = false from decide_eq_false (fun h => h5 (by have := h.1; have := h.2.1; have := h.2.2.1; have := h.2.2.2; omega)))
    go_enter Try.func27, Try.ntmps27
    go_wp2
    go_ret
    exact ⟨by rw [HN.out]; rfl, (Below.refl _ _).alloc (Nat.le_refl _) _⟩
  by_cases h6 : 0 < s
  case neg =>
    have HN := Lib.hid (show decide (clOk i r x s) = false from decide_eq_false (fun h => h6 (by have := h.1; have := h.2.1; have := h.2.2.1; have := h.2.2.2; omega)))
    go_enter Try.func27, Try.ntmps27
    go_wp2
    go_ret
    exact ⟨by rw [HN.out]; rfl, (Below.refl _ _).alloc (Nat.le_refl _) _⟩
  by_cases h7 : s < 65536
  case neg =>
    have HN := Lib.hid (show decide (clOk i r x s) = false from decide_eq_false (fun h => h7 (by have := h.1; have := h.2.1; have := h.2.2.1; have := h.2.2.2; omega)))
    go_enter Try.func27, Try.ntmps27
    go_wp2
    go_ret
    exact ⟨by rw [HN.out]; rfl, (Below.refl _ _).alloc (Nat.le_refl _) _⟩
  have HY := Lib.hid (show decide (clOk i r x s) = true from decide_eq_true ⟨by omega, by omega, by omega, by omega⟩)
  go_enter Try.func27, Try.ntmps27
  go_wp2
  go_ret
  exact ⟨by rw [HY.out]; rfl, (Below.refl _ _).alloc (Nat.le_refl _) _⟩

theorem of05_any (i r x s : Int) (w : World) :
    Calls Try.prog 20 #[.agg #[.int .i64 i, .int .i64 r, .int .i64 x, .int .i64 s]] w fun e w' => e = .returned (.agg #[.int .i64 i, .int .i64 r, .int .i64 x, .int .i64 s]) ∧ Below w.heap.size w w' := by
  go_enter Try.func20, Try.ntmps20
  go_wp2
  exact bodyPost_ret (v := .agg #[.int .i64 i, .int .i64 r, .int .i64 x, .int .i64 s]) (by simp [results, Try.results20, go_sem]) rfl ⟨rfl, ((Below.refl _ _).alloc (Nat.le_refl _) _).alloc (by simp) _⟩

/-- The claims at the beginning of bytes, in the document's words. -/
def c9 (b : List UInt8) : C4 := ((valB (b.take 2) : Nat), (valB ((b.drop 2).take 1) : Nat), (valB ((b.drop 3).take 4) : Nat), (valB ((b.drop 7).take 2) : Nat))
def parse9 (b : List UInt8) : C4 × Int := if b.length < 9 then ((0, 0, 0, 0), 4) else if clOk (c9 b).1 (c9 b).2.1 (c9 b).2.2.1 (c9 b).2.2.2 then (c9 b, 0) else ((0, 0, 0, 0), 3)
end Go.Proofs.Ytnbemfceoianiaa
