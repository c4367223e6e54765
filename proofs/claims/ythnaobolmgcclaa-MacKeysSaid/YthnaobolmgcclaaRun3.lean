/- Contracts of package digest: Sum. -/
import Derived.Test.YthnaobolmgcclaaRun2
namespace Go.Proofs.Ythnaobolmgcclaa
set_option linter.unusedVariables false
open Go.RowKit

theorem Pts.old {w : World} {A : Option Addr} {ps : List Pt} (h : Pts w A ps) (bl : Bl) (ow : List Ro) : SPts w bl ow A ps := ⟨Src.old h.1, fun p hp => Src.old (h.2 p hp)⟩
set_option maxRecDepth 100000 in
set_option maxHeartbeats 400000 in
theorem dsum_any (w : World) (A : Option Addr) (c : Nat) (ps : List Pt) (hp : Pts w A ps) (hn : ps.length ≤ 1000) (hl : (catP ps).length ≤ 900000) :
    Calls Try.prog 35 #[.slice A ps.length c] w fun e w' => e = .returned (.agg (b8a (sha (catP ps)))) ∧ Below w.heap.size w w' := by
  have m0 := ((Mst.start w).new 54 Y32).new 67 Z67
  rw [show (w.alloc (.cells Y32 54)).heap.size = w.heap.size + 1 by simp] at m0
  have hR0 : RunAt w (w.heap.size + 1) none (w.heap.size + 1, 67, Z67) [] := ⟨none, 0, by rw [Z67_eq], Src.nil_ _ _ _ _ _, Nat.le_refl _, by decide⟩
  have HA := Lib.hid (add_any w _ _ [] (w.heap.size + 1) none ⟨_, [], hR0, m0⟩ A c ps (hp.old _ _) hn (by show 0 + _ ≤ _; omega))
  clear m0 hR0
  obtain ⟨n, hN⟩ : ∃ n, ps.length = n := ⟨_, rfl⟩
  rw [hN] at HA ⊢
  clear hN hp hn
  go_enter Try.func35, Try.ntmps35
  go_wp2_with fail
  refine HA.out.mono ?_
  rintro e w1 ⟨rfl, x1, hr1, hR1, m1⟩
  rw [show told none ++ catP ps = catP ps from rfl] at hR1
  have HS := Lib.hid (rsum_any w w1 _ [] (w.heap.size + 1) _ x1 hr1 hR1 m1 hl)
  clear hR1 m1
  go_wp2_with fail
  refine HS.out.mono ?_
  rintro e w2 ⟨rfl, m2⟩
  obtain ⟨K, hK⟩ : ∃ K, sha (catP ps) = K := ⟨_, rfl⟩
  have hKl : K.length = 32 := by rw [← hK]; rfl
  rw [show told (some (catP ps)) = catP ps from rfl, hK]
  have HKs := Lib.hid hK
  have B4 := Lib.hid (m2.blk [_])
  have I4 := Lib.hid (show (Try.prog.info? 54).map (·.size) = some (b8a K).size by rw [b8a_size, hKl]; exact info_arr32)
  have S4 := Lib.hid (show Y32.size = (b8a K).size by rw [b8a_size, hKl]; rfl)
  have O4 := Lib.hid (b8a_one K)
  have m5 := Mst.setRow (bl := []) [_] m2 (b8a K)
  have M5 := Lib.hid m5
  clear m2 m5 hK hKl
  go_wp2_with (first | refine wpList_store_row rfl _ _ _ rfl w.heap.size (b8a K) rfl rfl 54 _ B4.out I4.out S4.out O4.out ?_)
  exact bodyPost_ret (results_cell_row rfl _ _ w.heap.size 54 _ (0, 0) _ rfl (setRow_heap _ _ _ _ _ _ B4.out) Try.underlying54 rfl I4.out) rfl ⟨by rw [HKs.out], M5.out.bel⟩
end Go.Proofs.Ythnaobolmgcclaa
