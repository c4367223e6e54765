/- slices.Clone of steps. -/
import Derived.Test.YtnopmdhjamkoaaaDoorSd
namespace Go.Proofs.YtnopmdhjamkoaaaDoor
set_option linter.unusedVariables false
set_option linter.unusedSimpArgs false
open Go.RowKit

set_option maxRecDepth 100000 in
set_option maxHeartbeats 1000000 in
theorem sclone_any (W w : World) (bl : Bl) (ow : List Ro) (hM : Mst W w bl ow) (A : Option Addr) (c : Nat) (l : List St) (n : Nat) (hN : l.length = n) (hl : Src W bl ow 4 A n (sts l)) (hn : n ≤ 1000000) (hA : A = none → c = 0) :
    Calls Tryd.prog 63 #[.slice A n c] w fun r w' => ∃ A' c', r = .returned (.slice A' n c') ∧ Mst W w' bl (⟨62, 4, .slice A' n c', n, sts l⟩ :: ow) := by
  have hq := fun W n c => Lib.run_eql_slice_nil (P := Tryd.prog) W 54 62 A n c 0 0 Tryd.underlying54
  rcases A with _ | a
  · have h0 : n = 0 := by
      rcases Nat.eq_zero_or_pos n with h | h
      · exact h
      · obtain ⟨b, o, e, _⟩ := hl.2 (by omega)
        cases e
    subst h0
    have h1 : l = [] := List.eq_nil_of_length_eq_zero hN
    subst h1
    have HM := Lib.hid (hM.nilrow 62 4)
    clear hM hl
    go_enter Tryd.func63, Tryd.ntmps63
    go_wp2
    go_ret
    exact ⟨none, 0, rfl, HM.out⟩
  · have m1 := hM.newrow 62 4 0 0 #[] (Nat.le_refl _) (by decide) rfl
    have hs := hl.sub (fun _ h => h) (fun y hy => List.mem_cons_of_mem (⟨62, 4, .slice (some ⟨w.heap.size, 0, none⟩) 0 0, 0, #[].toList.take (0 * 4)⟩ : Ro) hy)
    have M1 := Lib.hid m1
    have HS := Lib.hid hs
    have HN := Lib.hid hN
    clear hM hl m1 hs hN
    go_enter Tryd.func63, Tryd.ntmps63
    go_wp2_with (at_builtin; refine wpList_appE rfl _ _ 54 rfl [] M1.out el_step rfl _ (some a) n c (sts l) rfl (M1.out.src HS.out) (sts_one l) (by unfold maxLen; omega) (by omega) ?_; intro A5 c5 w5 N5 X5 hn5 hx5 mq; have Mq := Lib.hid mq; have HN5 := Lib.hid (show N5 = n by omega); have HX5 := Lib.hid (show X5 = sts l from hx5); clear mq hn5 hx5)
    go_ret
    refine ⟨A5, c5, by rw [HN5.out]; rfl, ?_⟩
    have m := Mq.out
    rw [HN5.out, HX5.out] at m
    exact m

end Go.Proofs.YtnopmdhjamkoaaaDoor
