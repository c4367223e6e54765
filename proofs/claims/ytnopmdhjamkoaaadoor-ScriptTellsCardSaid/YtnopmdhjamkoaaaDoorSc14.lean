/- The document's number: a numeral of base 10. -/
import Derived.Test.YtnopmdhjamkoaaaDoorSc13
import Derived.Laws.IdiomStrings
import Derived.Laws.Concat
namespace Go.Proofs.YtnopmdhjamkoaaaDoor
set_option linter.unusedVariables false
set_option linter.unusedSimpArgs false
open Go.RowKit
theorem conv1 (w : World) (b : UInt8) : (convert 60 9 (.slice (some ⟨w.heap.size, 0, none⟩) 1 1)).run Tryd.prog (w.alloc (.cells #[.int .u8 (b.toNat : Int)] 5)) = .ok (.string ⟨#[b]⟩) (w.alloc (.cells #[.int .u8 (b.toNat : Int)] 5)) :=
  run_convert_bytes_back (P := Tryd.prog) _ 60 9 5 ⟨w.heap.size, 0, none⟩ 1 [b] Tryd.underlying60 Tryd.underlying5 Tryd.underlying9 fun j hj => by
    obtain rfl : j = 0 := by simp at hj; omega
    exact (Bk.mk_ w 5 #[.int .u8 (b.toNat : Int)]).cell 0
theorem wpList_convS {P : Program} {w : World} {ops : Array Oper} {rest : List Oper} {o : Oper} {a : Act} {Q : Exit → Act → World → Prop} (hg : o.guard = none) (src dst : TypeId) (x : Operand) (ho : o.op = .convert src dst x) (v r : Value) (hx : a.eval x = v) (hr : (convert src dst v).run P w = .ok r w)
    (h : wpList P ops Q rest (a.put o.dst r) w) : wpList P ops Q (o :: rest) a w :=
  wpList_val r (by simp [Region.wanted, hg]) (by simp only [execOp, ho, hx, Sem.run_bind, hr, Result.andThen_ok, Sem.run_pure]) h
set_option maxRecDepth 100000 in
set_option maxHeartbeats 1000000 in
theorem number_one (d : Nat) (hd : d < 10) (w : World) : Calls Tryd.prog 67 #[.int .i64 (d : Int)] w fun r w' => r = .returned (.string ⟨#[UInt8.ofNat (48 + d)]⟩) ∧ Below w.heap.size w w' := by
  have hb : ((UInt8.ofNat (48 + d)).toNat : Int) = 48 + (d : Int) := by
    rw [UInt8.toNat_ofNat']
    omega
  have HC := Lib.hid (conv1 w (UInt8.ofNat (48 + d)))
  rw [hb] at HC
  have HB := Lib.hid ((Below.refl w.heap.size w).alloc (Nat.le_refl _) (.cells #[.int .u8 (48 + (d : Int))] 5))
  generalize (⟨#[UInt8.ofNat (48 + d)]⟩ : ByteArray) = S at HC ⊢
  have i1 : (d : Int) < 10 := by omega
  have i2 : (0 : Int) ≤ d := by omega
  clear hb hd
  go_enter Tryd.func67, Tryd.ntmps67
  go_wp2_with (first | refine wpList_convS rfl _ _ _ rfl _ _ rfl HC.out ?_)
  go_ret
  exact ⟨rfl, HB.out⟩
end Go.Proofs.YtnopmdhjamkoaaaDoor
