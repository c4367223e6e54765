/- The document's Words. -/
import Derived.Test.YtnopmdhjamkoaaaDoorSc15
namespace Go.Proofs.YtnopmdhjamkoaaaDoor
set_option linter.unusedVariables false
set_option linter.unusedSimpArgs false
open Go.RowKit
set_option maxRecDepth 100000 in
set_option maxHeartbeats 1000000 in
theorem words31_any (w : World) : Calls Tryd.prog 41 #[] w fun r w' => r = .returned (.agg wsA31) ∧ Below w.heap.size w w' := by
  have HB := Lib.hid (((Below.refl w.heap.size w).alloc (Nat.le_refl _) (.cells #[.string ⟨#[119, 97, 105, 116]⟩, .string ⟨#[114, 101, 118, 111, 107, 101]⟩, .string ⟨#[110, 111, 116, 101]⟩, .string ⟨#[114, 117, 108, 101]⟩, .string ⟨#[99, 117, 116]⟩, .string ⟨#[104, 101, 97, 108]⟩, .string ⟨#[115, 116, 111, 112]⟩, .string ⟨#[115, 116, 97, 114, 116]⟩, .string ⟨#[115, 112, 111, 105, 108]⟩, .string ⟨#[108, 101, 97, 118, 101]⟩, .string ⟨#[115, 101, 110, 100]⟩] 69)))
  go_enter Tryd.func41, Tryd.ntmps41
  go_wp2
  exact bodyPost_ret (v := .agg #[.string ⟨#[119, 97, 105, 116]⟩, .string ⟨#[114, 101, 118, 111, 107, 101]⟩, .string ⟨#[110, 111, 116, 101]⟩, .string ⟨#[114, 117, 108, 101]⟩, .string ⟨#[99, 117, 116]⟩, .string ⟨#[104, 101, 97, 108]⟩, .string ⟨#[115, 116, 111, 112]⟩, .string ⟨#[115, 116, 97, 114, 116]⟩, .string ⟨#[115, 112, 111, 105, 108]⟩, .string ⟨#[108, 101, 97, 118, 101]⟩, .string ⟨#[115, 101, 110, 100]⟩]) (by simp [results, Tryd.results41, go_sem]) rfl ⟨rfl, HB.out⟩
end Go.Proofs.YtnopmdhjamkoaaaDoor
