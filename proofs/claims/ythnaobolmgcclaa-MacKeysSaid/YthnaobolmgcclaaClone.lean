/- The contract of bytes.Clone. -/
import Derived.Test.YthnaobolmgcclaaSame
import Derived.Test.YthnaobolmgcclaaWireN
import Derived.OwnWalk
namespace Go.Proofs.Ythnaobolmgcclaa
set_option linter.unusedVariables false
open Go.RowKit

theorem src_cells {w : World} {a : Addr} {l : List UInt8} (h : RB w w.heap.size (some a) l) : ∀ j u, (by8 l)[j]? = some u → (w.alloc (.cells #[] 5)).cell? (a.add j) = some u := by
  intro j u hu
  have hn : 0 < l.length := by
    rcases Nat.eq_zero_or_pos l.length with h0 | h0
    · rw [List.eq_nil_of_length_eq_zero h0] at hu; simp [by8] at hu
    · exact h0
  obtain ⟨b, o, e, hb, hc⟩ := h.2 hn
  injection e with e
  subst e
  rw [WideShapes.add_plain, World.cell?_alloc_lt _ _ _ hb]
  exact hc j u hu

set_option maxHeartbeats 1000000 in
theorem clone_some (a : Addr) (c : Nat) (l : List UInt8) (w : World) (hl : RB w w.heap.size (some a) l) (hn : l.length ≤ 1000000) :
    Calls Try.prog 74 #[.slice (some a) l.length c] w (RetFresh w 5 1 l.length (by8 l)) := by
  obtain ⟨i0, hi, hz0, hz1, hz2⟩ := info_parts info_u8
  have J0 := Lib.hid hi
  have J1 := Lib.hid hz0
  have J2 := Lib.hid hz1
  have J3 := Lib.hid hz2
  have H1 := Lib.hid hl
  have hb1 : 0 + l.length ≤ maxLen := by unfold maxLen; omega
  have hb2 : (0 + l.length) * 1 ≤ 140737488355328 := by omega
  have B1 := Lib.hid hb1
  have B2 := Lib.hid hb2
  clear hl hi hz0 hz1 hz2 hb1 hb2
  have hq := fun W => Lib.run_eql_slice_nil (P := Try.prog) W 26 5 (some a) l.length c 0 0 Try.underlying26
  have M0 := (Mst.start w).newrow 5 1 0 0 #[] (Nat.le_refl _) (by decide) rfl
  go_enter Try.func74, Try.ntmps74
  go_wp2_with (at_builtin; refine wpList_append_own _ rfl _ _ 26 rfl w.heap.size 5 i0 _ 1 1 Try.underlying26 J0.out J1.out J2.out J3.out rfl (by decide) (.slice (some ⟨w.heap.size, 0, none⟩) 0 0) 0 [] rfl (M0.row []) a l.length c (by8 l) rfl (by rw [by8_length]; omega) (src_cells H1.out) (by8_one l) B1.out B2.out M0.bel.size ?_; intro v' w2 hown hgrow _)
  go_ret
  refine ⟨_, rfl, M0.bel.grown hgrow M0.bel.size (fun k hk => ?_), ?_⟩
  · simp [Value.ownBlock] at hk
    omega
  · simpa using hown

theorem clone_nil (c : Nat) (w : World) :
    Calls Try.prog 74 #[.slice none 0 c] w (RetFresh w 5 1 0 (by8 [])) := by
  have hq := fun W => Lib.run_eql_slice_nil (P := Try.prog) W 26 5 none 0 c 0 0 Try.underlying26
  go_enter Try.func74, Try.ntmps74
  go_wp2
  go_ret
  exact ⟨_, rfl, Below.refl _ _, World.ownsRow_nil _ _ _ _⟩
theorem clone_any (A : Option Addr) (c : Nat) (l : List UInt8) (w : World) (hl : RB w w.heap.size A l) (hn : l.length ≤ 1000000) :
    Calls Try.prog 74 #[.slice A l.length c] w (RetFresh w 5 1 l.length (by8 l)) := by
  rcases A with _ | a
  · have h0 : l = [] := by
      rcases Nat.eq_zero_or_pos l.length with h | h
      · exact List.eq_nil_of_length_eq_zero h
      · obtain ⟨b, o, e, _⟩ := hl.2 h
        cases e
    subst h0
    exact clone_nil c w
  · exact clone_some a c l w hl hn
end Go.Proofs.Ythnaobolmgcclaa
