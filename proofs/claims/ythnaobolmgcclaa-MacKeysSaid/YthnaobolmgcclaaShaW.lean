/- Words of 32 bits as Go's values: what the operations on them give. Over any program. -/
import Derived.Test.YthnaobolmgcclaaShaP
import Derived.Test.YthnaobolmgcclaaProg
import Derived.Outline
namespace Go.Proofs.Ythnaobolmgcclaa
set_option linter.unusedVariables false

/-- A word as a value. -/
def W (x : Wd) : Value := .int .u32 (x.toNat : Int)
theorem W_cells (x : Wd) : (W x).cells = #[W x] := rfl
theorem W_one (x : Wd) : (W x).oneCell' = true := rfl
theorem W_eq (x : Wd) : W x = .int .u32 (x.toNat : Int) := rfl
theorem wrap_u32 (x : Int) : IntKind.u32.wrap x = x % 4294967296 := by simp [IntKind.wrap, IntKind.signed, IntKind.bits]
theorem wrap_u8 (x : Int) : IntKind.u8.wrap x = x % 256 := by simp [IntKind.wrap, IntKind.signed, IntKind.bits]
section
variable {P : Program} (t : TypeId) (x y : Wd) (w : World)
theorem W_add : (binOp .add t (W x) (W y)).run P w = .ok (W (x + y)) w := by
  have h : IntKind.u32.wrap ((x.toNat : Int) + y.toNat) = ((x + y).toNat : Int) := by
    rw [wrap_u32, BitVec.toNat_add]; omega
  simp only [binOp, W, Op.intArith, ne_eq, not_true, if_false]
  simp only [h, Sem.run_pure]
theorem bv (x : Wd) : BitVec.ofInt IntKind.u32.bits (x.toNat : Int) = x := by
  show BitVec.ofInt 32 (x.toNat : Int) = x
  rw [BitVec.ofInt_natCast, BitVec.ofNat_toNat]
  simp
theorem wr (x : Wd) : IntKind.u32.wrap (x.toNat : Int) = (x.toNat : Int) := by
  have := x.isLt
  rw [wrap_u32]; omega
theorem W_xor : (binOp .xor t (W x) (W y)).run P w = .ok (W (x ^^^ y)) w := by
  simp only [binOp, W, Op.intBits, ne_eq, not_true, if_false, bv, Sem.run_pure]
  exact congrArg (fun z => Result.ok (Value.int .u32 z) w) (wr (x ^^^ y))
theorem W_and : (binOp .and t (W x) (W y)).run P w = .ok (W (x &&& y)) w := by
  simp only [binOp, W, Op.intBits, ne_eq, not_true, if_false, bv, Sem.run_pure]
  exact congrArg (fun z => Result.ok (Value.int .u32 z) w) (wr (x &&& y))
theorem W_or : (binOp .or t (W x) (W y)).run P w = .ok (W (x ||| y)) w := by
  simp only [binOp, W, Op.intBits, ne_eq, not_true, if_false, bv, Sem.run_pure]
  exact congrArg (fun z => Result.ok (Value.int .u32 z) w) (wr (x ||| y))
theorem W_shr (k : IntKind) (n : Nat) (hn : n ≤ 32) : (binOp .shr t (W x) (.int k n)).run P w = .ok (W (x >>> n)) w := by
  have h1 : ¬ (n : Int) < 0 := by omega
  have h2 : min (n : Int).toNat IntKind.u32.bits = n := by
    show min (n : Int).toNat 32 = n
    omega
  simp only [binOp, W, Op.shift, if_neg h1, h2, Sem.run_pure]
  congr 2
  rw [BitVec.toNat_ushiftRight, Nat.shiftRight_eq_div_pow, Int.fdiv_eq_ediv_of_nonneg _ (by exact Int.pow_nonneg (by decide))]
  simp
theorem W_shl (k : IntKind) (n : Nat) (hn : n ≤ 32) : (binOp .shl t (W x) (.int k n)).run P w = .ok (W (x <<< n)) w := by
  have h1 : ¬ (n : Int) < 0 := by omega
  have h2 : min (n : Int).toNat IntKind.u32.bits = n := by
    show min (n : Int).toNat 32 = n
    omega
  simp only [binOp, W, Op.shift, if_neg h1, h2, Sem.run_pure]
  congr 2
  rw [BitVec.toNat_shiftLeft, Nat.shiftLeft_eq, wrap_u32]
  simp
theorem W_not : (Op.unary .xor (W x)).run P w = .ok (W (~~~x)) w := by
  have e : (BitVec.ofInt 32 4294967295 ^^^ x : Wd) = ~~~x := by
    rw [show BitVec.ofInt 32 4294967295 = BitVec.allOnes 32 from by decide, BitVec.allOnes_xor]
  have e2 : Op.unary .xor (W x) = pure (.int .u32 (IntKind.u32.wrap ((BitVec.ofInt 32 4294967295 ^^^ BitVec.ofInt 32 (x.toNat : Int) : Wd).toNat : Int))) := rfl
  rw [e2, show BitVec.ofInt 32 (x.toNat : Int) = x from bv x, e, wr]
  rfl
theorem W_store (x : Wd) (p : Addr) (w : World) (hc : (w.cell? p).isSome = true) (hf : w.frozen? p = false) : (store p (W x)).run P w = .ok () (w.setCell p (W x)) := by
  obtain ⟨old, ho⟩ := Option.isSome_iff_exists.1 hc
  simp only [run_store P w _ (W x) _ rfl, ho]
  simp [hf]
end
theorem and31 (n : Nat) (r s : Nat) (h : r + s = 32) (hr : 0 < r) (hs : 0 < s) (P : Program) (t : TypeId) (w : World) : (binOp .and t (.int .u64 (IntKind.u64.wrap (-(r : Int)))) (.int .u64 31)).run P w = .ok (.int .u64 (s : Int)) w := by
  have e : (BitVec.ofInt 64 (IntKind.u64.wrap (-(r : Int))) &&& BitVec.ofInt 64 31).toNat = s := by
    rw [BitVec.toNat_and, BitVec.toNat_ofInt, show (BitVec.ofInt 64 31).toNat = 2 ^ 5 - 1 from by decide, Nat.and_two_pow_sub_one_eq_mod]
    simp only [IntKind.wrap, IntKind.signed, IntKind.bits]
    simp
    omega
  have e2 : binOp .and t (.int .u64 (IntKind.u64.wrap (-(r : Int)))) (.int .u64 31) = pure (.int .u64 (IntKind.u64.wrap ((BitVec.ofInt 64 (IntKind.u64.wrap (-(r : Int))) &&& BitVec.ofInt 64 31).toNat : Int))) := rfl
  rw [e2, e]
  have : IntKind.u64.wrap (s : Int) = s := by
    simp only [IntKind.wrap, IntKind.signed, IntKind.bits]
    simp
    omega
  rw [this]
  rfl
theorem rotl (x : Wd) (r s : Nat) (h : r + s = 32) (hr : 0 < r) (hs : 0 < s) (w : World) :
    Calls Try.prog 107 #[W x, .int .i64 (-(r : Int))] w fun e w' => e = .returned (W (rr x r)) ∧ w = w' := by
  obtain ⟨C, hC, hA⟩ : ∃ C : Value, (∀ w, (convert 3 124 (.int .i64 (-(r : Int)))).run Try.prog w = .ok C w) ∧ ∀ w, (binOp .and 124 C (.int .u64 31)).run Try.prog w = .ok (.int .u64 (s : Int)) w :=
    ⟨.int .u64 (IntKind.u64.wrap (-(r : Int))), fun w => by go_simp, fun w => and31 0 r s h hr hs _ _ w⟩
  have hB : ∀ w, (binOp .shl 56 (W x) (.int .u64 (s : Int))).run Try.prog w = .ok (W (x <<< s)) w := fun w => W_shl _ _ w _ _ (by omega)
  have hE : ∀ w, (binOp .shr 56 (W x) (.int .u64 (32 - (s : Int)))).run Try.prog w = .ok (W (x >>> r)) w := fun w => by
    rw [show (32 - (s : Int)) = (r : Int) by omega]
    exact W_shr _ _ w _ _ (by omega)
  have hF : ∀ w, (binOp .or 56 (W (x <<< s)) (W (x >>> r))).run Try.prog w = .ok (W (rr x r)) w := fun w => by
    rw [W_or, BitVec.or_comm, show s = 32 - r by omega]; rfl
  have h1 : (s : Int) ≤ 32 := by omega
  clear h hr hs
  go_enter Try.func107, Try.ntmps107
  go_wp2
  go_ret
  exact ⟨rfl, rfl⟩
end Go.Proofs.Ythnaobolmgcclaa
