/- strings.Builder: copyCheck, WriteByte. -/
import Derived.Test.YtnopmdhjamkoaaaDoorShaA
import Derived.Lib.Builder
namespace Go.Proofs.YtnopmdhjamkoaaaDoor
set_option linter.unusedVariables false
open Go.RowKit

set_option maxRecDepth 100000 in
theorem copyCheck_any (W w : World) (bl : Bl) (ow : List Ro) (b : Nat) (p : Option Addr) (v : Value) (hp : p = none ∨ p = some ⟨b, 0, none⟩) (h : Mst W w ((b, 131, #[.pointer p, v]) :: bl) ow) :
    Calls Tryd.prog 105 #[.pointer (some ⟨b, 0, none⟩)] w fun e w' => e = .returned (.tuple #[]) ∧ Mst W w' ((b, 131, #[.pointer (some ⟨b, 0, none⟩), v]) :: bl) ow := by
  have c0 : w.cell? ⟨b, 0, none⟩ = some (.pointer p) := (h.blk []).cell 0
  have f0 := (h.blk []).fr 0
  have HM := Lib.hid h
  have h1 := Lib.hid (h.put [] 0 (.pointer (some ⟨b, 0, none⟩)))
  obtain ⟨j, hj, hjs⟩ := Option.map_eq_some_iff.1 (show (Tryd.prog.info? 131).map (·.size) = some 2 by kernel_rfl)
  have hne := fun w => Lib.run_neq_ptr_same (P := Tryd.prog) w ⟨b, 0, none⟩ Tryd.underlying129 hj
  have hsh : w.shape? b = some (131, 2) := by
    have := h.blk []
    unfold Bk at this
    simp [World.shape?, this]
  clear h
  rcases hp with rfl | rfl
  · go_enter Tryd.func105, Tryd.ntmps105
    go_wp2
    rw [Lib.run_to_unsafe w ⟨b, 0, none⟩ Tryd.underlying129 Tryd.underlying185 hj (by rw [hjs]; decide) hsh (Nat.zero_lt_succ 1)]
    simp only [Result.andThen]
    rw [Oper.upon_value]
    go_wp2
    rw [run_callFunc_extern Tryd.func118 (by kernel_rfl) (by kernel_rfl) (by kernel_rfl) (e := Extern.AbiNoEscape.same) (by kernel_rfl)]
    rw [Lib.run_noEscape]
    simp only [Result.andThen]
    rw [Oper.upon_value]
    go_wp2
    rw [Lib.run_from_unsafe w ⟨b, 0, none⟩ Tryd.underlying185 Tryd.underlying129 hj hsh (by kernel_rfl)]
    simp only [Result.andThen]
    rw [Oper.upon_value]
    go_wp2
    go_end0
    exact ⟨rfl, h1.out⟩
  · go_enter Tryd.func105, Tryd.ntmps105
    go_wp2
    go_end0
    exact ⟨rfl, HM.out⟩

/-- A builder that the call has made, and what it holds. -/
def BdX (W w : World) (bl : Bl) (ow : List Ro) (b : Nat) (l : List UInt8) : Prop :=
  ∃ p v, (p = none ∨ p = some ⟨b, 0, none⟩) ∧ Mst W w ((b, 131, #[.pointer p, v]) :: bl) (⟨5, 1, v, l.length, by8 l⟩ :: ow)
set_option maxRecDepth 100000 in
set_option maxHeartbeats 400000 in
theorem writeByte_any (W w : World) (bl : Bl) (ow : List Ro) (b : Nat) (l : List UInt8) (h : BdX W w bl ow b l) (c : UInt8) (hl : l.length ≤ 1000000) :
    Calls Tryd.prog 87 #[.pointer (some ⟨b, 0, none⟩), .int .u8 (c.toNat : Int)] w fun e w' => e = .returned .nilIface ∧ BdX W w' bl ow b (l ++ [c]) := by
  obtain ⟨p, v, hp, hm⟩ := h
  have HC := Lib.hid (copyCheck_any W w _ _ b p v hp hm)
  obtain ⟨A, cp, rfl, -, hx1, hx2, -⟩ := own_form (hm.row [])
  obtain ⟨n, hn⟩ : ∃ n, l.length = n := ⟨_, rfl⟩
  have HN := Lib.hid hn
  rw [hn] at HC hx1 hx2 hl
  clear hm hn
  go_enter Tryd.func87, Tryd.ntmps87
  go_wp2_with fail
  refine HC.out.mono ?_
  rintro e w1 ⟨rfl, m1⟩
  have c1 : w1.cell? ⟨b, 1, none⟩ = some (.slice A n cp) := (m1.blk []).cell 1
  have M1 := Lib.hid m1
  clear m1
  go_wp2_with (at_builtin; refine wpList_appM rfl _ _ 60 rfl [] (Mst.alloc M1.out _) el_u8c rfl _ _ 1 1 [.int .u8 (c.toNat : Int)] rfl (Rd.new1 _ #[.int .u8 (c.toNat : Int)] _ rfl) (one1 _ rfl) (by unfold maxLen; omega) (by omega) ?_; intro A' c' w' s2; have k1 := (s2.blk []).cell 1; have g1 := (s2.blk []).fr 1; have S2 := Lib.hid s2; clear s2)
  go_ret
  refine ⟨rfl, some ⟨b, 0, none⟩, .slice A' (n + 1) c', .inr rfl, ?_⟩
  have a := S2.out.put [] 1 (.slice A' (n + 1) c')
  rw [List.length_append, HN.out, by8_append]
  exact a
end Go.Proofs.YtnopmdhjamkoaaaDoor
