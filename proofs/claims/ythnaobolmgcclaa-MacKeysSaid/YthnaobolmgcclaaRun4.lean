/- A nil running digest; an append in a drawn region behind a guard that holds. -/
import Derived.Test.YthnaobolmgcclaaRun3
namespace Go.Proofs.Ythnaobolmgcclaa
set_option linter.unusedVariables false
open Go.RowKit

section
variable {P : Program} {w W : World} {bl : List (Nat × TypeId × Array Value)}
theorem step_appW {ops : Array Oper} {o : Oper} {a : Act} {K : Act → World → Prop} {Q : Exit → Act → World → Prop} {E : Prop} (hw : Region.wanted o (yielded ops a.tmps) = true) (s x : Operand) (t : TypeId)
    (ho : o.op = .call { callee := .builtin .append, args := #[s, x], argTypes := #[t, t] })
    (pre : List Ro) {post : List Ro} {e : TypeId} {size n bytes : Nat} {v : Value} {xs : List Value} (hm : Mst W w bl (pre ++ ⟨e, size, v, n, xs⟩ :: post)) (hE : El P t e size bytes) (hs : a.eval s = v)
    (B : Nat) (A : Option Addr) (m c : Nat) (news : List Value) (hx : a.eval x = .slice A m c) (hr : Rd w B size A m news) (h1 : ∀ u ∈ news, u.oneCell' = true)
    (h63 : n + m ≤ maxLen) (hbytes : (n + m) * bytes ≤ 140737488355328)
    (h : ∀ A' c' w', Mst W w' bl (pre ++ ⟨e, size, .slice A' (n + m) c', n + m, xs ++ news⟩ :: post) → K (a.put o.dst (.slice A' (n + m) c')) w') :
    if Region.wanted o (yielded ops a.tmps) = true then Oper.wp P o a w K Q else E := by
  obtain ⟨ht, ⟨i, z, hi, hz, hsize, hby, hzs⟩, hp⟩ := hE
  rw [if_pos hw]
  exact wp_app w s x t ho W.heap.size e i z size bytes ht hi hz hsize hby hzs hp v n xs hs (hm.row pre) B A m c news hx hr h1 h63 hbytes hm.bel.size fun A' c' w' h2 h3 h4 => h A' c' w' (hm.app pre h3 h2 h4)
end

theorem add_nil (v : Value) (w : World) : Calls Try.prog 36 #[.pointer none, v] w fun e w' => e = .returned (.pointer none) ∧ w' = w := by
  go_enter Try.func36, Try.ntmps36
  go_wp2
  go_ret
  exact ⟨rfl, rfl⟩
theorem copy_nil (w : World) : Calls Try.prog 39 #[.pointer none] w fun e w' => e = .returned (.pointer none) ∧ w' = w := by
  go_enter Try.func39, Try.ntmps39
  go_wp2
  go_ret
  exact ⟨rfl, rfl⟩
theorem rlen_nil (w : World) : Calls Try.prog 38 #[.pointer none] w fun e w' => e = .returned (.int .i64 0) ∧ w' = w := by
  go_enter Try.func38, Try.ntmps38
  go_wp2
  go_ret
  exact ⟨rfl, rfl⟩
theorem rsum_nil (w : World) : Calls Try.prog 37 #[.pointer none] w fun e w' => e = .returned (.agg (b8a (sha []))) ∧ Below w.heap.size w w' := by
  have hD := dsum_any (w.alloc (.cells Y32 54)) none 0 [] ⟨Rd.nil_ _ _ _ _, by simp⟩ (by simp) (by simp [catP])
  rw [show catP [] = [] from rfl] at hD
  obtain ⟨K, hK⟩ : ∃ K, sha [] = K := ⟨_, rfl⟩
  have hKl : K.length = 32 := by rw [← hK]; rfl
  rw [hK] at hD ⊢
  have HD := Lib.hid hD
  clear hD hK
  have m1 := (Mst.start w).new 54 Y32
  have M1 := Lib.hid m1
  clear m1
  go_enter Try.func37, Try.ntmps37
  go_wp2_with fail
  refine HD.out.mono ?_
  rintro e w2 ⟨rfl, hb2⟩
  have m2 := M1.out.below hb2
  have B4 := Lib.hid (m2.blk [])
  have I4 := Lib.hid (show (Try.prog.info? 54).map (·.size) = some (b8a K).size by rw [b8a_size, hKl]; exact info_arr32)
  have S4 := Lib.hid (show Y32.size = (b8a K).size by rw [b8a_size, hKl]; rfl)
  have O4 := Lib.hid (b8a_one K)
  have m5 := Mst.setRow (bl := []) [] m2 (b8a K)
  have M5 := Lib.hid m5
  clear m2 m5 hKl hb2
  go_wp2_with (first | refine wpList_store_row rfl _ _ _ rfl w.heap.size (b8a K) rfl rfl 54 _ B4.out I4.out S4.out O4.out ?_)
  exact bodyPost_ret (results_cell_row rfl _ _ w.heap.size 54 _ (0, 0) _ rfl (setRow_heap _ _ _ _ _ _ B4.out) Try.underlying54 rfl I4.out) rfl ⟨rfl, M5.out.bel⟩
end Go.Proofs.Ythnaobolmgcclaa
