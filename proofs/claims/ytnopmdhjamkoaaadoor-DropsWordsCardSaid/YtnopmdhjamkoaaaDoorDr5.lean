/- Contracts: the law's tells and known of layer 13. -/
import Derived.Test.YtnopmdhjamkoaaaDoorDr4
namespace Go.Proofs.YtnopmdhjamkoaaaDoor
set_option linter.unusedVariables false
open Go.RowKit

theorem arr_cells {w : World} {g : Nat} {t : TypeId} {ns : List Int} (h : Bk w g t (i64s ns).toArray) {k : Nat} {x : Int} (hx : ns[k]? = some x) : w.cell? ⟨g, k, none⟩ = some (.int .i64 x) := by
  rw [h.cell]; simpa using i64s_get hx

theorem count13_at (g : Nat) (top : Int) (L l : List Int) (n : Nat) (w : World) {A : Option Addr} {c : Nat} (hb : Bk w g 97 (dcs top (dns top L))) (hr : Rd w w.heap.size 1 A n (i64s l)) (hn : n = l.length) (hf : ∀ b o, A = some ⟨b, o, none⟩ → b ≠ g)
    (hl : l.length ≤ 1000000) (ht : 1 ≤ top) (ht' : top ≤ 2147483647) :
    Calls Tryd.prog 24 #[.pointer (some ⟨g, 0, none⟩), .slice A n c] w fun r w' => r = .returned (.int .i64 (rsn l : Nat)) ∧ On w w' g ∧ Bk w' g 97 (dcs top (dns top (L ++ l))) := by
  subst hn
  exact count13 g top L A c l w hb hr hf hl ht ht'

set_option maxRecDepth 100000 in
set_option maxHeartbeats 1000000 in
theorem known13 (w : World) : Calls Tryd.prog 22 #[] w fun r w' => r = .returned (.bool true) ∧ Below w.heap.size w w' := by
  go_enter Tryd.func22, Tryd.ntmps22
  go_wp2_with fail
  refine (new13 2 (by omega) (by omega) _).mono ?_
  rintro r w1 ⟨rfl, b1, k1⟩
  have s1 := (Mst.start w).addb b1 k1 (Nat.le_refl _)
  have hsz : w.heap.size < w1.heap.size := k1.lt
  have S1 := Lib.hid s1
  clear b1 k1 s1
  go_wp2_with fail
  have s2 := S1.out.alloc (.cells #[.int .i64 3, .int .i64 3, .int .i64 3, .int .i64 5] 41)
  refine (s2.callsOn [] (count13_at w.heap.size 2 [] [3, 3, 3, 5] 4 _ (s2.blk []) (Rd.new1 _ #[.int .i64 3, .int .i64 3, .int .i64 3, .int .i64 5] _ rfl) rfl (fun b o e => by injection e with e; injection e with e; omega) (by simp) (by omega) (by omega))).mono ?_
  rintro r w2 ⟨rfl, s3⟩
  have h3 : ofN 2 ([] ++ [3, 3, 3, 5]) 3 = 2 := by decide
  have h5 : ofN 2 ([] ++ [3, 3, 3, 5]) 5 = 1 := by decide
  have h6 : sumK (dns 2 ([] ++ [3, 3, 3, 5])) 16 = 3 := by decide
  clear S1 s2
  have H3 := Lib.hid h3
  have H5 := Lib.hid h5
  have H6 := Lib.hid h6
  clear h3 h5 h6
  go_wp2_with fail
  refine (s3.calls (of13 _ 2 _ 3 _ (s3.blk []))).mono ?_
  rintro r w3 ⟨rfl, s4⟩
  rw [H3.out]
  clear s3
  go_wp2_with fail
  refine (s4.calls (of13 _ 2 _ 5 _ (s4.blk []))).mono ?_
  rintro r w3 ⟨rfl, s5⟩
  rw [H5.out]
  clear s4
  go_wp2_with fail
  refine (s5.calls (total13 _ 2 _ _ (s5.blk []) (by omega) (by omega))).mono ?_
  rintro r w3 ⟨rfl, s6⟩
  rw [H6.out]
  clear s5
  go_wp2_with fail
  go_ret
  exact ⟨rfl, s6.bel⟩
end Go.Proofs.YtnopmdhjamkoaaaDoor
