/- Contracts of package events: Read with no kinds. -/
import Derived.Test.YtnopmdhjamkoaaaDoorEv11
namespace Go.Proofs.YtnopmdhjamkoaaaDoor
set_option linter.unusedVariables false
set_option linter.unusedSimpArgs false
open Go.RowKit

theorem read1_any (w : World) (e : Ev) (q : Addr) (hq : w.cell? q = some (.slice none 0 0)) (hs : q.spot = none) :
    Calls Tryd.prog 53 #[e.v, .pointer (some q)] w fun r w' => r = .returned (.bool true) ∧ Below w.heap.size w w' := by
  obtain ⟨b, o, s⟩ := q
  simp only at hs
  subst hs
  obtain ⟨et, ek, ei, er⟩ := e
  have hb := block_lt_of_cell hq
  have h1 := ((Below.refl w.heap.size w).alloc (Nat.le_refl _) (.cells #[.int .i64 et, .int .i64 ek, .int .i64 ei, .int .i64 er] 30)).cell (p := ⟨b, o, none⟩) hb
  rw [hq] at h1
  clear hq
  go_enter Tryd.func53, Tryd.ntmps53
  go_wp2
  go_ret
  exact ⟨rfl, (Below.refl _ _).alloc (Nat.le_refl _) _⟩
set_option maxHeartbeats 1000000 in
theorem such1_read (w : World) (e : Ev) (m : Nat) (hm : m < 256) (hr0 : 0 ≤ e.r) (hr8 : e.r < 8) (b1 b2 bq : Nat)
    (h1 : w.cell? ⟨b1, 0, none⟩ = some (.int .i64 m)) (h2 : w.cell? ⟨b2, 0, none⟩ = some (.func (Fn.func 53) #[] #[.pointer (some ⟨bq, 0, none⟩)])) (hq : w.cell? ⟨bq, 0, none⟩ = some (.slice none 0 0)) :
    Calls Tryd.prog 83 #[e.v, .pointer (some ⟨b1, 0, none⟩), .pointer (some ⟨b2, 0, none⟩)] w fun r w' => r = .returned (.bool (sD m (fun _ => true) e)) ∧ Below w.heap.size w w' := by
  obtain ⟨et, ek, ei, er⟩ := e
  simp only at hr0 hr8
  obtain ⟨R, rfl⟩ := Int.eq_ofNat_of_zero_le hr0
  have bb := (Below.refl w.heap.size w).alloc (Nat.le_refl _) (.cells #[.int .i64 et, .int .i64 ek, .int .i64 ei, .int .i64 (R : Int)] 30)
  have c1 := bb.cell (p := ⟨b1, 0, none⟩) (block_lt_of_cell h1)
  rw [h1] at c1
  have c2 := bb.cell (p := ⟨b2, 0, none⟩) (block_lt_of_cell h2)
  rw [h2] at c2
  have c3 := bb.cell (p := ⟨bq, 0, none⟩) (block_lt_of_cell hq)
  rw [hq] at c3
  have HS := Lib.hid (read1_any _ ⟨et, ek, ei, (R : Int)⟩ ⟨bq, 0, none⟩ c3 rfl)
  have HB := Lib.hid bb
  have hA := and_i64z m R hm
  have hR : (R : Int) < 64 := by omega
  have hR2 : R < 8 := by omega
  have hm2 : (m : Int) < 256 := by omega
  clear c3 bb h1 h2 hq hr8
  by_cases hk : ek = 4
  · subst hk
    cases hb : m.testBit R
    · rw [hb] at hA
      have HF := Lib.hid hb
      clear hb
      go_enter Tryd.func83, Tryd.ntmps83
      go_wp2
      go_ret
      exact ⟨by simp [sD, HF.out], HB.out⟩
    · rw [hb] at hA
      have HF := Lib.hid hb
      clear hb
      go_enter Tryd.func83, Tryd.ntmps83
      go_wp2_with fail
      refine HS.out.mono ?_
      rintro r w2 ⟨rfl, hb⟩
      have HB2 := Lib.hid hb
      clear hb
      go_wp2
      go_ret
      exact ⟨by simp [sD, HF.out], HB.out.trans (HB2.out.mono (by simp))⟩
  · have hk2 : (ek == 4) = false := by simpa using hk
    clear hA
    go_enter Tryd.func83, Tryd.ntmps83
    go_wp2_with fail
    refine HS.out.mono ?_
    rintro r w2 ⟨rfl, hb⟩
    have HB2 := Lib.hid hb
    clear hb
    go_wp2
    go_ret
    exact ⟨by simp [sD, hk], HB.out.trans (HB2.out.mono (by simp))⟩
set_option maxRecDepth 100000 in
set_option maxHeartbeats 1000000 in
theorem read_any (W w : World) (bl : Bl) (ow : List Ro) (g : Nat) (s : List Ev × Nat) (v : Value) (hL : Lg W w bl ow g s v) (hn : s.1.length ≤ 1000000) (hE : ∀ e ∈ s.1, 0 ≤ e.r ∧ e.r < 8) (m : Nat) (hm : m < 256) :
    Calls Tryd.prog 15 #[.pointer (some ⟨g, 0, none⟩), .int .i64 m, .slice none 0 0] w fun r w' => ∃ A' n' c', r = .returned (.slice A' n' c') ∧ n' = (keepE (sD m fun _ => true) s.1).length ∧ Mst W w' ((g, 83, #[v, .int .i64 s.2]) :: bl) (evRow A' n' c' (keepE (sD m fun _ => true) s.1) :: ⟨30, 4, v, s.1.length, evs s.1⟩ :: ow) := by
  unfold Lg at hL
  have m1 := (hL.new 85 #[.slice none 0 0]).backb [_]
  have M1 := Lib.hid m1
  have HC := Lib.hid (fun b1 b2 w' ow' (hm' : Mst W w' ((w.heap.size, 85, #[.slice none 0 0]) :: bl) ow') h1 h2 e he => such1_read w' e m hm (hE e he).1 (hE e he).2 b1 b2 w.heap.size h1 h2 (by
    have k := (hm'.blk []).cell 0
    simp at k
    exact k))
  clear hL m1
  go_enter Tryd.func15, Tryd.ntmps15
  go_wp2_with fail
  refine (such_any W _ _ _ g s v M1.out hn m _ _ _ HC.out).mono ?_
  rintro r w4 ⟨A4, n4, c4, rfl, hn4, hm4⟩
  have HN4 := Lib.hid hn4
  have M4 := Lib.hid hm4
  clear hm4 hn4
  go_wp2
  go_ret
  exact ⟨_, _, _, rfl, HN4.out, M4.out.sub (by simp) (List.Sublist.refl _)⟩
end Go.Proofs.YtnopmdhjamkoaaaDoor
