/-
  vigil/vigillaw14.PacketKinds returns true at every input, and each argument reads behind the call as it read before. Conditions: none but the form's own.
-/
import Derived.Test.YtnbemfceoianiaaDoorRows
import Derived.Test.YtnbemfceoianiaaDoorPacketKinds
import Derived.Test.YtnbemfceoianiaaDoorOpenA
import Derived.ProofKit
import Derived.OpenShut
import Derived.ChangeOld
import Derived.JoinedOf
import Derived.LaidMore
import Derived.Stop.Joined
import Derived.Stop.LaidErr
import Derived.MakeChecks
import Derived.Lib.LaidTab
import Derived.WalkSmall
import Derived.SevenTiedAt
import Derived.Test.YtnbemfceoianiaaDoorTie
import Derived.Test.YtnbemfceoianiaaDoorCards
namespace Go.Proofs.YtnbemfceoianiaaDoor.packetKinds
open Go.ChangeShapes Go.WideShapes Go.ChangeAt Go.RowKit

theorem own : ownKnob Tryd.prog.godebug = none := by kernel_rfl
theorem laidOut : laidOutB Tryd.prog = true := by kernel_rfl

set_option maxRecDepth 100000
theorem door_met (os : Os) (args : Array Value) : laidMetH Tryd.prog Rows.packetKindsRow.laid ((World.doorLaid Tryd.prog 33 os).forCall (fun _ _ => 0) ⟨#[], args, []⟩).memory :=
  laidMetH_of_parts3 (fuel := 8) (laidMet_of_run' 8 (by kernel_rfl) (by kernel_rfl)) (by kernel_rfl) (by kernel_rfl)
theorem tab0_data : (Rows.laid_strings_asciiSpace : DataW Unit) = Lib.tabData .u8 Lib.asciiSpaceTab := by kernel_rfl
theorem tab0 {W : World} (h : laidMetH Tryd.prog Rows.packetKindsRow.laid W) : ∀ w, Below W.heap.size W w → Lib.TabIs Tryd.prog w "strings.asciiSpace" .u8 Lib.asciiSpaceTab := by
  rw [MakeChecks.laidMetH_plain _ _ _ (by kernel_rfl)] at h
  have h2 : laidMet Tryd.prog (("strings.asciiSpace", Rows.laid_strings_asciiSpace) :: []) W := laidMet.tail h
  rw [tab0_data] at h2
  have ht := Lib.tabIs_of_head (show Tryd.prog.globalNamed "strings.asciiSpace" = some 0 by kernel_rfl) (show (Tryd.prog.globals[0]?).map (·.type) = some 51 by kernel_rfl) Tryd.underlying51 Tryd.underlying5 (by kernel_rfl) (by kernel_rfl) h2
  have hlt : 0 < W.heap.size := World.block_lt_of_cell? _ _ (ht.cell (show Tryd.prog.globalNamed "strings.asciiSpace" = some 0 by kernel_rfl) 0 (by decide))
  exact fun w hb => var?_below hb (show Tryd.prog.globalNamed "strings.asciiSpace" = some 0 by kernel_rfl) hlt ht
set_option linter.unusedVariables false
set_option maxRecDepth 100000 in
theorem lifted (os : Os) (started : os.Started) (H : Type) (enc : TypeId × Value → H) :
    ReturnsInHanded {} Tryd.checked os 3 .any (fun w args => (Rows.packetKindsSpec.pre enc Tryd.prog Tryd.f3 [] false w args ∧ laidMetH Tryd.prog Rows.packetKindsRow.laid w) ∧ sizedMet enc Tryd.prog Tryd.f3 (OpenSpec.ofChange Rows.packetKindsSpec) false w args) (Rows.packetKindsSpec.post enc Tryd.prog Tryd.f3 false true false false) := by
  refine returnsInHanded_of_change_and (C := Tryd.checked) (X := fun w _ => laidMetH Tryd.prog Rows.packetKindsRow.laid w) (fun _ _ _ hh h => h.of_heap hh) own started (by kernel_rfl) Tryd.func3
    (ChangeSpec.witness_shaped (enc := enc) (C := Tryd.checked) (os := os) (X := fun w _ => laidMetH Tryd.prog Rows.packetKindsRow.laid w) false (World.doorLaid Tryd.prog 33 os) #[.int .i64 0, .slice none 0 0] 8 rfl (World.shaped_of_RefB (by kernel_rfl) (by kernel_rfl)) (by kernel_rfl) (by kernel_rfl) (by kernel_rfl) (door_met os _)) ?_
  intro W base args ds gs before hval0 hW _ _ hL _
  have hval : ∀ (j : Nat) t v, Tryd.f3.params[j]? = some t → args[j]? = some v → Value.okWide Tryd.prog W .any base t v := hval0
  have hW' := hW
  obtain ⟨p, q, hA0, hV, rfl, hfz, hnd⟩ := hW
  have hA : DataW.TrodAll enc Tryd.prog W 0 (fun _ => true) true Tryd.f3.params.toList args.toList ds p := hA0
  rw [Tryd.params3] at hA hval
  obtain ⟨v0, vs0, d0, ds0, p0, q0, hargs, rfl, rfl, h0, r0⟩ := trodAll_cons hA
  obtain ⟨v1, vs1, d1, ds1, p1, q1, rfl, rfl, rfl, h1, r1⟩ := trodAll_cons r0
  obtain ⟨rfl, rfl, rfl⟩ := trodAll_nil r1
  obtain rfl : args = #[v0, v1] := by cases args; simp_all
  obtain ⟨rfl, rfl⟩ := trodVars_none hV
  have lt0 : ∀ x ∈ p0, x.block < W.heap.size := by obtain ⟨m, hm⟩ := h0; exact DataW.trod_lt m _ _ _ hm
  have lt1 : ∀ x ∈ p1, x.block < W.heap.size := by obtain ⟨m, hm⟩ := h1; exact DataW.trod_lt m _ _ _ hm
  have a0 := open_int64 Tryd.underlying3 (hval 0 3 v0 rfl rfl) h0
  have a1 := open_pks (hval 1 22 v1 rfl rfl) h1
  clear hA0 hval0
  refine (contract_packetKinds W v0 v1 a0 a1 (tab0 hL)).mono fun e W' ⟨he, bel⟩ => ?_
  subst he
  exact ⟨_, rfl, _, _, _, [], _, [], hW', trodAll_mk1 (shut_bool Tryd.underlying4 _), (trodAll_cons_mk (Below.trod laidOut (by kernel_rfl) (of_decide_eq_true (by kernel_rfl)) h0 bel lt0) (trodAll_cons_mk (Below.trod laidOut (by kernel_rfl) (of_decide_eq_true (by kernel_rfl)) h1 bel lt1) trodAll_mk0)), rfl, bel.frame _, fun h => by cases h⟩

theorem over : Rows.packetKindsRow.holds Tryd.pinned (OpenSpec.ofChange Rows.packetKindsSpec) :=
  OpenClaim.holds_of_wide 3 Tryd.f3 rfl rfl rfl rfl rfl rfl rfl ⟨rfl, rfl, rfl, rfl, rfl⟩ rfl rfl rfl rfl rfl (by kernel_rfl) Tryd.func3 (by kernel_rfl)
    (of_decide_eq_true (by kernel_rfl)) (by unfold Func.isWrapper; first | (rw [if_pos (by decide +kernel)]; kernel_rfl) | (rw [if_neg (by decide +kernel)]; exact ⟨rfl, rfl⟩))
    (fun os started H enc _ => lifted os started H enc)

/-- The statement: the tied card. -/
theorem proved : Rows.PacketKindsCardSaid :=
  Claim7.holds_tied_plain_at .later [] [.listed, .data] true (true, "87cc4a5d5c98e9abd2407444a55ecff56128bed864242f9122f46491d73f830a") false
    over (fun _ h => by cases h) (by kernel_rfl) (fun _ h => by cases h) packetKinds_row_tie rfl ⟨rfl, rfl⟩ (by kernel_rfl) rfl
    (fun f fn hf hfn => by
      obtain rfl : f = 3 := Option.some.inj ((show Tryd.prog.funcNamed "vigil/vigillaw14.PacketKinds" = some 3 by kernel_rfl).symm.trans hf) |>.symm
      obtain rfl : fn = Tryd.f3 := (Option.some.inj (Tryd.func3.symm.trans hfn)).symm
      exact ⟨by kernel_rfl, fun j t ht => by
        rw [Tryd.params3] at ht
        have hm : t ∈ [3, 22] := by
          have hm' := Array.mem_of_getElem? ht
          simpa using hm'
        have hall : ([3, 22].all fun u => !Tryd.prog.wantsStandIn u) = true := by kernel_rfl
        exact (show Tryd.prog.wantsStandIn t = false by simpa using List.all_eq_true.1 hall t hm)⟩)
    (by kernel_rfl)
#print axioms proved
end Go.Proofs.YtnbemfceoianiaaDoor.packetKinds
