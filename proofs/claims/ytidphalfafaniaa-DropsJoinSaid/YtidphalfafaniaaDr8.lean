/- Contract of drops.Same where the limits are the same. -/
import Derived.Test.YtidphalfafaniaaDr7
namespace Go.Proofs.Ytidphalfafaniaa
set_option linter.unusedVariables false
open Go.RowKit

theorem range13 {g : Nat} {top : Int} {ns : List Int} {w : World} (hb : Bk w g 101 (dcs top ns)) : w.rangeAt g 1 (i64s ns) := hb.range fun j v hv => by
  have hj : j < ns.length := by
    have := (List.getElem?_eq_some_iff.1 hv).1
    simpa [i64s] using this
  have hv' := i64s_get (List.getElem?_eq_getElem hj)
  rw [hv'] at hv
  rw [Nat.add_comm, ← hv]
  exact dcs_at (List.getElem?_eq_getElem hj)

set_option maxRecDepth 100000 in
theorem same13 (g h : Nat) (top : Int) (ns ns' : List Int) (w : World) (hb : Bk w g 101 (dcs top ns)) (hh : Bk w h 101 (dcs top ns')) (hl : ns.length = 16) (hl' : ns'.length = 16) :
    Calls Try.prog 37 #[.pointer (some ⟨g, 0, none⟩), .pointer (some ⟨h, 0, none⟩)] w fun r w' => r = .returned (.bool (ns == ns')) ∧ Below w.heap.size w w' := by
  have c0 : w.cell? ⟨g, 0, none⟩ = some (.int .i64 top) := by rw [hb.cell]; exact dcs_top _ _
  have c1 : w.cell? ⟨h, 0, none⟩ = some (.int .i64 top) := by rw [hh.cell]; exact dcs_top _ _
  have htt : (top == top) = true := by simp
  have l1 : ∀ w', (∃ n, w' = w.drewN n) → w'.rangeAt g 1 (i64s ns) := by rintro _ ⟨n, rfl⟩; exact range13 (hb.drewN n)
  have l2 : ∀ w', (∃ n, w' = w.drewN n) → w'.rangeAt h 1 (i64s ns') := by rintro _ ⟨n, rfl⟩; exact range13 (hh.drewN n)
  have he : ∀ w', (binOp .eql 51 (.agg (i64s ns).toArray) (.agg (i64s ns').toArray)).run Try.prog w' = .ok (.bool (ns == ns')) w' := fun w' => run_eql_ints w' .i64 _ _ 16 Try.underlying51 Try.underlying3 (size_of (by kernel_rfl)) ns ns' hl hl'
  have L1 := Lib.hid l1
  have L2 := Lib.hid l2
  have I1 : Hid ((Try.prog.info? 51).map (·.size) = some (i64s ns).length) := by show _ = _; rw [i64s_len, hl]; exact info_arr16
  have I2 : Hid ((Try.prog.info? 51).map (·.size) = some (i64s ns').length) := by show _ = _; rw [i64s_len, hl']; exact info_arr16
  clear hb hh hl hl' l1 l2
  go_enter Try.func37, Try.ntmps37
  go_wp2_with fail
  refine wp_region_quiet_lit (by kernel_rfl) (by kernel_rfl) ?_
  repeat (quiet_step (fail))
  refine wpQuiet_load_mid (by kernel_rfl) _ _ rfl g 1 rfl (i64s ns) _ L1.out Try.underlying51 rfl I1.out ?_
  repeat (quiet_step (fail))
  refine wpQuiet_load_mid (by kernel_rfl) _ _ rfl h 1 rfl (i64s ns') _ L2.out Try.underlying51 rfl I2.out ?_
  repeat (quiet_step (fail))
  refine wpQuiet_nil ?_
  intro _ hw'
  obtain ⟨nq, hw''⟩ := hw'
  subst hw''
  go_wp2_with fail
  go_ret
  exact ⟨rfl, Bdn (Below.refl _ _) _⟩
end Go.Proofs.Ytidphalfafaniaa
