/- Contracts of package wire: the bytes of a field of bytes. -/
import Derived.Test.YtnbemfceoianiaaDoorWireO
import Derived.Test.YtnbemfceoianiaaDoorBaseA
import Derived.Deep.RegionLaw
import Derived.Deep.RegionHeld3
namespace Go.Proofs.YtnbemfceoianiaaDoor
set_option linter.unusedVariables false
open Go.RowKit

theorem el_u8 : El Tryd.prog 30 5 1 1 := El.of Tryd.underlying30 (z := .int .u8 0) (by kernel_rfl) rfl (by decide)
theorem Mst.fresh0 {w w' : World} {bl : List (Nat × TypeId × Array Value)} {e size n : Nat} {v : Value} {xs : List Value} (h : Mst w w' bl [⟨e, size, v, n, xs⟩]) : Fresh w w' e size v n xs := ⟨h.bel, h.row []⟩

set_option maxRecDepth 100000 in
set_option maxHeartbeats 1600000 in
theorem out_some (A : Option Addr) (c : Nat) (l : List UInt8) (n : Int) (w : World) (hl : RB w w.heap.size A l) (hn : l.length ≤ 1000000) :
    Calls Tryd.prog 35 #[.agg #[.int .i64 4, .int .i64 n, .slice A l.length c]] w (RetFresh w 5 1 (2 + l.length) (by8 (numB 2 l.length ++ l))) := by
  have M0 := (Mst.start w).new 76 #[.int .i64 4, .int .i64 n, .slice A l.length c]
  have H0 := Lib.hid M0
  have H1 := Lib.hid hl
  have hln : (0 : Int) ≤ (l.length : Int) := by omega
  have hln2 : (l.length : Int) ≤ 9223372036854775807 := by omega
  clear M0 hl
  go_enter Tryd.func35, Tryd.ntmps35
  go_wp2_with fail
  go_region_held3 (fun w' => w'.cell? ⟨w.heap.size, 2, none⟩ = some (.slice A l.length c))
    (first | go_keep | assumption)
    (first
      | ((with_reducible refine (number_1 (l.length : Int) _ hln hln2).mono ?_); rintro e w1 ⟨v, rfl, hf⟩; have q : w1.cell? ⟨w.heap.size, 2, none⟩ = some (.slice A l.length c) := (hf.bel.cell (p := ⟨w.heap.size, 2, none⟩) (by simp)).trans ((H0.out.drew.blk []).cell 2); have H2 := Lib.hid (H0.out.drew.addr hf); clear hf)
      | (refine step_appM (by rfl) _ _ 30 (by rfl) [] H2.out el_u8 (by rfl) _ _ _ _ (by8 l) (by rfl) (H2.out.oldRd H1.out) (by8_one _) (by unfold maxLen; omega) (by omega) ?_; intro A' c' w2 s2; have q2 : w2.cell? ⟨w.heap.size, 2, none⟩ = some (.slice A l.length c) := (s2.blk []).cell 2; have H3 := Lib.hid s2; clear s2))
  go_wp2_with fail
  go_ret
  refine ⟨_, rfl, ?_⟩
  rw [by8_append]
  exact (H3.out.dropb).fresh0
end Go.Proofs.YtnbemfceoianiaaDoor
