/-
  vigil/vigillaw05.ClaimsOrders returns true at every input, and each argument reads behind the call as it read before. Conditions: none but the form's own.
-/
import Derived.Test.YtghcdffpplimoaaDoorRows
import Derived.Test.YtghcdffpplimoaaDoorClaimsOrders
import Derived.Test.YtghcdffpplimoaaDoorOpenA
import Derived.ProofKit
import Derived.OpenShut
import Derived.ChangeOld
import Derived.JoinedOf
import Derived.LaidMore
import Derived.Stop.Joined
import Derived.Stop.LaidErr
import Derived.MakeChecks
import Derived.Lib.LaidTab
import Derived.WalkSmall
import Derived.SevenTiedAt
import Derived.Test.YtghcdffpplimoaaDoorTie
import Derived.Test.YtghcdffpplimoaaDoorCards
namespace Go.Proofs.YtghcdffpplimoaaDoor.claimsOrders
open Go.ChangeShapes Go.WideShapes Go.ChangeAt Go.RowKit

theorem own : ownKnob Tryd.prog.godebug = none := by kernel_rfl
theorem laidOut : laidOutB Tryd.prog = true := by kernel_rfl

set_option maxRecDepth 100000
theorem door_met (os : Os) (args : Array Value) : laidMetH Tryd.prog Rows.claimsOrdersRow.laid ((World.doorLaid Tryd.prog 48 os).forCall (fun _ _ => 0) ⟨#[], args, []⟩).memory :=
  laidMetH_of_parts3 (fuel := 8) (laidMet_of_run' 8 (by kernel_rfl) (by kernel_rfl)) (by kernel_rfl) (by kernel_rfl)
theorem tab0_data : (Rows.laid_internal_strconv_uint64pow10 : DataW Unit) = Lib.tabData .u64 Lib.pow10Tab := by kernel_rfl
theorem tab0 {W : World} (h : laidMetH Tryd.prog Rows.claimsOrdersRow.laid W) : ∀ w, Below W.heap.size W w → Lib.TabIs Tryd.prog w "internal/strconv.uint64pow10" .u64 Lib.pow10Tab := by
  rw [MakeChecks.laidMetH_plain _ _ _ (by kernel_rfl)] at h
  have h2 : laidMet Tryd.prog (("internal/strconv.uint64pow10", Rows.laid_internal_strconv_uint64pow10) :: []) W := laidMet.tail (laidMet.tail h)
  rw [tab0_data] at h2
  have ht := Lib.tabIs_of_head (show Tryd.prog.globalNamed "internal/strconv.uint64pow10" = some 3 by kernel_rfl) (show (Tryd.prog.globals[3]?).map (·.type) = some 131 by kernel_rfl) Tryd.underlying131 Tryd.underlying118 (by kernel_rfl) (by kernel_rfl) h2
  have hlt : 3 < W.heap.size := World.block_lt_of_cell? _ _ (ht.cell (show Tryd.prog.globalNamed "internal/strconv.uint64pow10" = some 3 by kernel_rfl) 0 (by decide))
  exact fun w hb => var?_below hb (show Tryd.prog.globalNamed "internal/strconv.uint64pow10" = some 3 by kernel_rfl) hlt ht
set_option linter.unusedVariables false
set_option maxRecDepth 100000 in
theorem lifted (os : Os) (started : os.Started) (H : Type) (enc : TypeId × Value → H) :
    ReturnsInHanded {} Tryd.checked os 4 .any (fun w args => (Rows.claimsOrdersSpec.pre enc Tryd.prog Tryd.f4 [] false w args ∧ laidMetH Tryd.prog Rows.claimsOrdersRow.laid w) ∧ sizedMet enc Tryd.prog Tryd.f4 (OpenSpec.ofChange Rows.claimsOrdersSpec) false w args) (Rows.claimsOrdersSpec.post enc Tryd.prog Tryd.f4 false true false false) := by
  refine returnsInHanded_of_change_and (C := Tryd.checked) (X := fun w _ => laidMetH Tryd.prog Rows.claimsOrdersRow.laid w) (fun _ _ _ hh h => h.of_heap hh) own started (by kernel_rfl) Tryd.func4
    (ChangeSpec.witness_shaped (enc := enc) (C := Tryd.checked) (os := os) (X := fun w _ => laidMetH Tryd.prog Rows.claimsOrdersRow.laid w) false (World.doorLaid Tryd.prog 48 os) #[.agg #[.int .i64 0, .int .i64 0, .int .i64 0, .int .i64 0], .agg #[.int .i64 0, .int .i64 0, .int .i64 0, .int .i64 0], .agg #[.int .i64 0, .int .i64 0, .int .i64 0, .int .i64 0], .int .i64 0] 8 rfl (World.shaped_of_RefB (by kernel_rfl) (by kernel_rfl)) (by kernel_rfl) (by kernel_rfl) (by kernel_rfl) (door_met os _)) ?_
  intro W base args ds gs before hval0 hW _ _ hL _
  have hval : ∀ (j : Nat) t v, Tryd.f4.params[j]? = some t → args[j]? = some v → Value.okWide Tryd.prog W .any base t v := hval0
  have hW' := hW
  obtain ⟨p, q, hA0, hV, rfl, hfz, hnd⟩ := hW
  have hA : DataW.TrodAll enc Tryd.prog W 0 (fun _ => true) true Tryd.f4.params.toList args.toList ds p := hA0
  rw [Tryd.params4] at hA hval
  obtain ⟨v0, vs0, d0, ds0, p0, q0, hargs, rfl, rfl, h0, r0⟩ := trodAll_cons hA
  obtain ⟨v1, vs1, d1, ds1, p1, q1, rfl, rfl, rfl, h1, r1⟩ := trodAll_cons r0
  obtain ⟨v2, vs2, d2, ds2, p2, q2, rfl, rfl, rfl, h2, r2⟩ := trodAll_cons r1
  obtain ⟨v3, vs3, d3, ds3, p3, q3, rfl, rfl, rfl, h3, r3⟩ := trodAll_cons r2
  obtain ⟨rfl, rfl, rfl⟩ := trodAll_nil r3
  obtain rfl : args = #[v0, v1, v2, v3] := by cases args; simp_all
  obtain ⟨rfl, rfl⟩ := trodVars_none hV
  have lt0 : ∀ x ∈ p0, x.block < W.heap.size := by obtain ⟨m, hm⟩ := h0; exact DataW.trod_lt m _ _ _ hm
  have lt1 : ∀ x ∈ p1, x.block < W.heap.size := by obtain ⟨m, hm⟩ := h1; exact DataW.trod_lt m _ _ _ hm
  have lt2 : ∀ x ∈ p2, x.block < W.heap.size := by obtain ⟨m, hm⟩ := h2; exact DataW.trod_lt m _ _ _ hm
  have lt3 : ∀ x ∈ p3, x.block < W.heap.size := by obtain ⟨m, hm⟩ := h3; exact DataW.trod_lt m _ _ _ hm
  have a0 := open_aggs 4 Tryd.underlying35 (by kernel_rfl) (fun j hj => by match j, hj with | 0, _ => exact ⟨_, rfl, rfl, Tryd.underlying3, by kernel_rfl⟩ | 1, _ => exact ⟨_, rfl, rfl, Tryd.underlying3, by kernel_rfl⟩ | 2, _ => exact ⟨_, rfl, rfl, Tryd.underlying3, by kernel_rfl⟩ | 3, _ => exact ⟨_, rfl, rfl, Tryd.underlying3, by kernel_rfl⟩) (hval 0 35 v0 rfl rfl) h0
  have a1 := open_aggs 4 Tryd.underlying35 (by kernel_rfl) (fun j hj => by match j, hj with | 0, _ => exact ⟨_, rfl, rfl, Tryd.underlying3, by kernel_rfl⟩ | 1, _ => exact ⟨_, rfl, rfl, Tryd.underlying3, by kernel_rfl⟩ | 2, _ => exact ⟨_, rfl, rfl, Tryd.underlying3, by kernel_rfl⟩ | 3, _ => exact ⟨_, rfl, rfl, Tryd.underlying3, by kernel_rfl⟩) (hval 1 35 v1 rfl rfl) h1
  have a2 := open_aggs 4 Tryd.underlying35 (by kernel_rfl) (fun j hj => by match j, hj with | 0, _ => exact ⟨_, rfl, rfl, Tryd.underlying3, by kernel_rfl⟩ | 1, _ => exact ⟨_, rfl, rfl, Tryd.underlying3, by kernel_rfl⟩ | 2, _ => exact ⟨_, rfl, rfl, Tryd.underlying3, by kernel_rfl⟩ | 3, _ => exact ⟨_, rfl, rfl, Tryd.underlying3, by kernel_rfl⟩) (hval 2 35 v2 rfl rfl) h2
  have a3 := open_int64 Tryd.underlying3 (hval 3 3 v3 rfl rfl) h3
  clear hA0 hval0
  refine (contract_claimsOrders W v0 v1 v2 v3 a0 a1 a2 a3 (tab0 hL)).mono fun e W' ⟨he, bel⟩ => ?_
  subst he
  exact ⟨_, rfl, _, _, _, [], _, [], hW', trodAll_mk1 (shut_bool Tryd.underlying4 _), (trodAll_cons_mk (Below.trod laidOut (by kernel_rfl) (of_decide_eq_true (by kernel_rfl)) h0 bel lt0) (trodAll_cons_mk (Below.trod laidOut (by kernel_rfl) (of_decide_eq_true (by kernel_rfl)) h1 bel lt1) (trodAll_cons_mk (Below.trod laidOut (by kernel_rfl) (of_decide_eq_true (by kernel_rfl)) h2 bel lt2) (trodAll_cons_mk (Below.trod laidOut (by kernel_rfl) (of_decide_eq_true (by kernel_rfl)) h3 bel lt3) trodAll_mk0)))), rfl, bel.frame _, fun h => by cases h⟩

theorem over : Rows.claimsOrdersRow.holds Tryd.pinned (OpenSpec.ofChange Rows.claimsOrdersSpec) :=
  OpenClaim.holds_of_wide 4 Tryd.f4 rfl rfl rfl rfl rfl rfl rfl ⟨rfl, rfl, rfl, rfl, rfl⟩ rfl rfl rfl rfl rfl (by kernel_rfl) Tryd.func4 (by kernel_rfl)
    (of_decide_eq_true (by kernel_rfl)) (by unfold Func.isWrapper; first | (rw [if_pos (by decide +kernel)]; kernel_rfl) | (rw [if_neg (by decide +kernel)]; exact ⟨rfl, rfl⟩))
    (fun os started H enc _ => lifted os started H enc)

/-- The statement: the tied card. -/
theorem proved : Rows.ClaimsOrdersCardSaid :=
  Claim7.holds_tied_plain_at .later [] [.data, .data, .data] true (true, "a56a2e591b92e68e47fc9cb442f311241b47c8aac302c79aa20dee9c84ab9c77") false
    over (fun _ h => by cases h) (by kernel_rfl) (fun _ h => by cases h) claimsOrders_row_tie rfl ⟨rfl, rfl⟩ (by kernel_rfl) rfl
    (fun f fn hf hfn => by
      obtain rfl : f = 4 := Option.some.inj ((show Tryd.prog.funcNamed "vigil/vigillaw05.ClaimsOrders" = some 4 by kernel_rfl).symm.trans hf) |>.symm
      obtain rfl : fn = Tryd.f4 := (Option.some.inj (Tryd.func4.symm.trans hfn)).symm
      exact ⟨by kernel_rfl, fun j t ht => by
        rw [Tryd.params4] at ht
        have hm : t ∈ [35, 35, 35, 3] := by
          have hm' := Array.mem_of_getElem? ht
          simpa using hm'
        have hall : ([35, 35, 35, 3].all fun u => !Tryd.prog.wantsStandIn u) = true := by kernel_rfl
        exact (show Tryd.prog.wantsStandIn t = false by simpa using List.all_eq_true.1 hall t hm)⟩)
    (by kernel_rfl)
#print axioms proved
end Go.Proofs.YtghcdffpplimoaaDoor.claimsOrders
