/- Contracts of package drops: Copy, each with Join's closure, Join, Same. -/
import Derived.Test.YtidphalfafaniaaDr5
import Derived.Test.YtidphalfafaniaaArrEq
import Derived.Test.YtidphalfafaniaaJoin
namespace Go.Proofs.Ytidphalfafaniaa
set_option linter.unusedVariables false
open Go.RowKit

theorem info_drops : (Try.prog.info? 101).map (·.size) = some 17 := by kernel_rfl
theorem dcs_size (top : Int) {ns : List Int} (hl : ns.length = 16) : (dcs top ns).size = 17 := by simp [dcs, i64s_len, hl]
theorem dcs_one (top : Int) (ns : List Int) : (dcs top ns).all (·.oneCell') = true := by
  unfold dcs
  refine all_oneCell_toArray fun v hv => ?_
  rcases List.mem_cons.1 hv with rfl | hv
  · rfl
  · exact i64s_one ns v hv

set_option maxRecDepth 100000 in
theorem copy13 (g : Nat) (top : Int) (ns : List Int) (w : World) (hb : Bk w g 101 (dcs top ns)) (hl : ns.length = 16) :
    Calls Try.prog 35 #[.pointer (some ⟨g, 0, none⟩)] w fun r w' => r = .returned (.pointer (some ⟨w.heap.size, 0, none⟩)) ∧ Below w.heap.size w w' ∧ Bk w' w.heap.size 101 (dcs top ns) := by
  have hi : (Try.prog.info? 101).map (·.size) = some (dcs top ns).size := by rw [dcs_size top hl]; exact info_drops
  have HI := Lib.hid hi
  have H1 := Lib.hid (dcs_one top ns)
  have HS := Lib.hid (dcs_size top hl)
  have HB := Lib.hid hb
  clear hi hb
  go_enter Try.func35, Try.ntmps35
  go_wp2_with (first | refine wpList_load_row rfl _ _ rfl g rfl _ _ _ _ HB.out Try.underlying101 rfl HI.out ?_ | refine wpList_store_row rfl _ _ _ rfl w.heap.size (dcs top ns) rfl rfl 101 _ (heap_alloc_last _ _) HI.out (by simp [HS.out]) H1.out ?_)
  rw [World.setRow_alloc_new]
  go_ret
  exact ⟨rfl, (Below.refl _ _).alloc (Nat.le_refl _) _, Bk.mk_ _ _ _⟩
end Go.Proofs.Ytidphalfafaniaa
