/- Contracts of the document's answer of layer 12: Latest, Look; and of the law's Of. -/
import Derived.Test.YtiakgohipnbdbaaWinT
import Derived.Test.YtiakgohipnbdbaaOpenA
import Derived.Test.YtiakgohipnbdbaaBaseA
import Derived.Test.YtiakgohipnbdbaaEq2
import Derived.Deep.LoopGhost
import Derived.Deep.RegionWith
namespace Go.Proofs.Ytiakgohipnbdbaa
set_option linter.unusedVariables false
open Go.RowKit

/-- The greatest nonce of all. -/
def latP (ns : List (Int × Int)) : Int × Int := ns.foldl (fun o x => if lessN o.1 o.2 x.1 x.2 then x else o) (0, 0)
theorem latP_snoc {ns : List (Int × Int)} {k : Nat} {x : Int × Int} (h : ns[k]? = some x) : latP (ns.take (k + 1)) = if lessN (latP (ns.take k)).1 (latP (ns.take k)).2 x.1 x.2 then x else latP (ns.take k) := by
  unfold latP
  rw [List.take_add_one, h]
  simp only [Option.toList, List.foldl_append, List.foldl_cons, List.foldl_nil]

theorem of12 (b c : Int) (w : World) :
    Calls Try.prog 23 #[.agg #[.int .i64 b, .int .i64 c]] w fun e w' => e = .returned (.agg #[.int .i64 b, .int .i64 c]) ∧ Below w.heap.size w w' := by
  go_enter Try.func23, Try.ntmps23
  go_wp2
  refine bodyPost_ret (v := .agg #[.int .i64 b, .int .i64 c]) (by simp [results, Try.results23, go_sem]) rfl ⟨rfl, ?_⟩
  exact ((((Below.refl _ _).alloc (Nat.le_refl _) _).alloc (by simp) _))

/-- What the document answers. -/
def lookR (ns : List (Int × Int)) (b c : Int) : Int :=
  if okN b c = false then 10 else if b < (latP ns).1 ∨ (b = (latP ns).1 ∧ c ≤ (latP ns).2 - 64) then 9 else if (b, c) ∈ ns then 8 else 0

theorem lookR_no {ns : List (Int × Int)} {b c : Int} (h : okN b c = false) : lookR ns b c = 10 := by unfold lookR; rw [if_pos h]
theorem lookR_old {ns : List (Int × Int)} {b c : Int} (h : okN b c = true) (h1 : b < (latP ns).1 ∨ (b = (latP ns).1 ∧ c ≤ (latP ns).2 - 64)) : lookR ns b c = 9 := by
  unfold lookR; rw [if_neg (by simp [h]), if_pos h1]
theorem lookR_in {ns : List (Int × Int)} {b c : Int} (h : okN b c = true) (h1 : ¬ (b < (latP ns).1 ∨ (b = (latP ns).1 ∧ c ≤ (latP ns).2 - 64))) (h2 : (b, c) ∈ ns) : lookR ns b c = 8 := by
  unfold lookR; rw [if_neg (by simp [h]), if_neg h1, if_pos h2]
theorem lookR_out {ns : List (Int × Int)} {b c : Int} (h : okN b c = true) (h1 : ¬ (b < (latP ns).1 ∨ (b = (latP ns).1 ∧ c ≤ (latP ns).2 - 64))) (h2 : (b, c) ∉ ns) : lookR ns b c = 0 := by
  unfold lookR; rw [if_neg (by simp [h]), if_neg h1, if_neg h2]

end Go.Proofs.Ytiakgohipnbdbaa
