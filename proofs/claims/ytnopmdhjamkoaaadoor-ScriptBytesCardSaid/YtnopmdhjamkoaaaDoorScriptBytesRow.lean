/-
  vigil/vigillaw31.ScriptBytes returns true at every input, and each argument reads behind the call as it read before. Conditions: none but the form's own.
-/
import Derived.Test.YtnopmdhjamkoaaaDoorRows
import Derived.Test.YtnopmdhjamkoaaaDoorScriptBytes
import Derived.Test.YtnopmdhjamkoaaaDoorOpenA
import Derived.ProofKit
import Derived.OpenShut
import Derived.ChangeOld
import Derived.JoinedOf
import Derived.LaidMore
import Derived.Stop.Joined
import Derived.Stop.LaidErr
import Derived.MakeChecks
import Derived.Lib.LaidTab
import Derived.WalkSmall
import Derived.SevenTiedAt
import Derived.Test.YtnopmdhjamkoaaaDoorTie
import Derived.Test.YtnopmdhjamkoaaaDoorCards
namespace Go.Proofs.YtnopmdhjamkoaaaDoor.scriptBytes
open Go.ChangeShapes Go.WideShapes Go.ChangeAt Go.RowKit

theorem own : ownKnob Tryd.prog.godebug = none := by kernel_rfl
theorem laidOut : laidOutB Tryd.prog = true := by kernel_rfl

set_option maxRecDepth 100000
theorem door_met (os : Os) (args : Array Value) : laidMetH Tryd.prog Rows.scriptBytesRow.laid ((World.doorLaid Tryd.prog 48 os).forCall (fun _ _ => 0) ⟨#[], args, []⟩).memory :=
  laidMetH_of_parts3 (fuel := 8) (laidMet_of_run' 8 (by kernel_rfl) (by kernel_rfl)) (by kernel_rfl) (by kernel_rfl)
theorem tab0_data : (Rows.laid_internal_strconv_uint64pow10 : DataW Unit) = Lib.tabData .u64 Lib.pow10Tab := by kernel_rfl
theorem tab0 {W : World} (h : laidMetH Tryd.prog Rows.scriptBytesRow.laid W) : ∀ w, Below W.heap.size W w → Lib.TabIs Tryd.prog w "internal/strconv.uint64pow10" .u64 Lib.pow10Tab := by
  rw [MakeChecks.laidMetH_plain _ _ _ (by kernel_rfl)] at h
  have h2 : laidMet Tryd.prog (("internal/strconv.uint64pow10", Rows.laid_internal_strconv_uint64pow10) :: [("unicode.White_Space", Rows.laid_unicode_White_Space), ("strings.asciiSpace", Rows.laid_strings_asciiSpace)]) W := laidMet.tail (laidMet.tail h)
  rw [tab0_data] at h2
  have ht := Lib.tabIs_of_head (show Tryd.prog.globalNamed "internal/strconv.uint64pow10" = some 2 by kernel_rfl) (show (Tryd.prog.globals[2]?).map (·.type) = some 171 by kernel_rfl) Tryd.underlying171 Tryd.underlying150 (by kernel_rfl) (by kernel_rfl) h2
  have hlt : 2 < W.heap.size := World.block_lt_of_cell? _ _ (ht.cell (show Tryd.prog.globalNamed "internal/strconv.uint64pow10" = some 2 by kernel_rfl) 0 (by decide))
  exact fun w hb => var?_below hb (show Tryd.prog.globalNamed "internal/strconv.uint64pow10" = some 2 by kernel_rfl) hlt ht
theorem tab1_data : (Rows.laid_strings_asciiSpace : DataW Unit) = Lib.tabData .u8 Lib.asciiSpaceTab := by kernel_rfl
theorem tab1 {W : World} (h : laidMetH Tryd.prog Rows.scriptBytesRow.laid W) : ∀ w, Below W.heap.size W w → Lib.TabIs Tryd.prog w "strings.asciiSpace" .u8 Lib.asciiSpaceTab := by
  rw [MakeChecks.laidMetH_plain _ _ _ (by kernel_rfl)] at h
  have h2 : laidMet Tryd.prog (("strings.asciiSpace", Rows.laid_strings_asciiSpace) :: []) W := laidMet.tail (laidMet.tail (laidMet.tail (laidMet.tail h)))
  rw [tab1_data] at h2
  have ht := Lib.tabIs_of_head (show Tryd.prog.globalNamed "strings.asciiSpace" = some 0 by kernel_rfl) (show (Tryd.prog.globals[0]?).map (·.type) = some 126 by kernel_rfl) Tryd.underlying126 Tryd.underlying5 (by kernel_rfl) (by kernel_rfl) h2
  have hlt : 0 < W.heap.size := World.block_lt_of_cell? _ _ (ht.cell (show Tryd.prog.globalNamed "strings.asciiSpace" = some 0 by kernel_rfl) 0 (by decide))
  exact fun w hb => var?_below hb (show Tryd.prog.globalNamed "strings.asciiSpace" = some 0 by kernel_rfl) hlt ht
set_option linter.unusedVariables false
set_option maxRecDepth 100000 in
theorem lifted (os : Os) (started : os.Started) (H : Type) (enc : TypeId × Value → H) :
    ReturnsInHanded {} Tryd.checked os 7 .any (fun w args => (Rows.scriptBytesSpec.pre enc Tryd.prog Tryd.f7 [] false w args ∧ laidMetH Tryd.prog Rows.scriptBytesRow.laid w) ∧ sizedMet enc Tryd.prog Tryd.f7 (OpenSpec.ofChange Rows.scriptBytesSpec) false w args) (Rows.scriptBytesSpec.post enc Tryd.prog Tryd.f7 false true false false) := by
  refine returnsInHanded_of_change_and (C := Tryd.checked) (X := fun w _ => laidMetH Tryd.prog Rows.scriptBytesRow.laid w) (fun _ _ _ hh h => h.of_heap hh) own started (by kernel_rfl) Tryd.func7
    (ChangeSpec.witness_shaped (enc := enc) (C := Tryd.checked) (os := os) (X := fun w _ => laidMetH Tryd.prog Rows.scriptBytesRow.laid w) false (World.doorLaid Tryd.prog 48 os) #[.slice none 0 0] 8 rfl (World.shaped_of_RefB (by kernel_rfl) (by kernel_rfl)) (by kernel_rfl) (by kernel_rfl) (by kernel_rfl) (door_met os _)) ?_
  intro W base args ds gs before hval0 hW _ _ hL _
  have hval : ∀ (j : Nat) t v, Tryd.f7.params[j]? = some t → args[j]? = some v → Value.okWide Tryd.prog W .any base t v := hval0
  have hW' := hW
  obtain ⟨p, q, hA0, hV, rfl, hfz, hnd⟩ := hW
  have hA : DataW.TrodAll enc Tryd.prog W 0 (fun _ => true) true Tryd.f7.params.toList args.toList ds p := hA0
  rw [Tryd.params7] at hA hval
  obtain ⟨v0, vs0, d0, ds0, p0, q0, hargs, rfl, rfl, h0, r0⟩ := trodAll_cons hA
  obtain ⟨rfl, rfl, rfl⟩ := trodAll_nil r0
  obtain rfl : args = #[v0] := by cases args; simp_all
  obtain ⟨rfl, rfl⟩ := trodVars_none hV
  have lt0 : ∀ x ∈ p0, x.block < W.heap.size := by obtain ⟨m, hm⟩ := h0; exact DataW.trod_lt m _ _ _ hm
  have a0 := open_stps Tryd.underlying53 Tryd.underlying67 (by kernel_rfl) rfl Tryd.underlying3 (by kernel_rfl) rfl Tryd.underlying3 (by kernel_rfl) rfl Tryd.underlying3 (by kernel_rfl) rfl Tryd.underlying60 (by kernel_rfl) Tryd.underlying5 (by kernel_rfl) (hval 0 53 v0 rfl rfl) h0
  clear hA0 hval0
  refine (contract_scriptBytes W v0 a0 (tab0 hL) (tab1 hL)).mono fun e W' ⟨he, bel⟩ => ?_
  subst he
  exact ⟨_, rfl, _, _, _, [], _, [], hW', trodAll_mk1 (shut_bool Tryd.underlying4 _), (trodAll_cons_mk (Below.trod laidOut (by kernel_rfl) (of_decide_eq_true (by kernel_rfl)) h0 bel lt0) trodAll_mk0), rfl, bel.frame _, fun h => by cases h⟩

theorem over : Rows.scriptBytesRow.holds Tryd.pinned (OpenSpec.ofChange Rows.scriptBytesSpec) :=
  OpenClaim.holds_of_wide 7 Tryd.f7 rfl rfl rfl rfl rfl rfl rfl ⟨rfl, rfl, rfl, rfl, rfl⟩ rfl rfl rfl rfl rfl (by kernel_rfl) Tryd.func7 (by kernel_rfl)
    (of_decide_eq_true (by kernel_rfl)) (by unfold Func.isWrapper; first | (rw [if_pos (by decide +kernel)]; kernel_rfl) | (rw [if_neg (by decide +kernel)]; exact ⟨rfl, rfl⟩))
    (fun os started H enc _ => lifted os started H enc)

/-- The statement: the tied card. -/
theorem proved : Rows.ScriptBytesCardSaid :=
  Claim7.holds_tied_plain_at .later [] [.data, .data, .data, .listed, .data] true (true, "ca7157b35236b165d3723c33f76d19abd37a7bdfbb454a9d0fff909f395dc387") false
    over (fun _ h => by cases h) (by kernel_rfl) (fun _ h => by cases h) scriptBytes_row_tie rfl ⟨rfl, rfl⟩ (by kernel_rfl) rfl
    (fun f fn hf hfn => by
      obtain rfl : f = 7 := Option.some.inj ((show Tryd.prog.funcNamed "vigil/vigillaw31.ScriptBytes" = some 7 by kernel_rfl).symm.trans hf) |>.symm
      obtain rfl : fn = Tryd.f7 := (Option.some.inj (Tryd.func7.symm.trans hfn)).symm
      exact ⟨by kernel_rfl, fun j t ht => by
        rw [Tryd.params7] at ht
        have hm : t ∈ [53] := by
          have hm' := Array.mem_of_getElem? ht
          simpa using hm'
        have hall : ([53].all fun u => !Tryd.prog.wantsStandIn u) = true := by kernel_rfl
        exact (show Tryd.prog.wantsStandIn t = false by simpa using List.all_eq_true.1 hall t hm)⟩)
    (by kernel_rfl)
#print axioms proved
end Go.Proofs.YtnopmdhjamkoaaaDoor.scriptBytes
