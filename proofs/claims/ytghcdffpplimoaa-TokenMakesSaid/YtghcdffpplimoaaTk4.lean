/- Package token: contracts of the mint: Find, Issue. -/
import Derived.Test.YtghcdffpplimoaaTk3
import Derived.Deep.DeepCutAuto
namespace Go.Proofs.Ytghcdffpplimoaa
set_option linter.unusedVariables false
set_option linter.unusedSimpArgs false
open Go.RowKit

theorem find_no (w : World) (A : Option Addr) (n c : Nat) (serial : Int) (h : serial < 1 ∨ (n : Int) < serial) :
    Calls Try.prog 83 #[.slice A n c, .int .i64 serial] w fun e w' => e = .returned (.tuple #[.agg #[.int .i64 0, .int .i64 0, .int .i64 0, .int .i64 0], .int .i64 7]) ∧ Below w.heap.size w w' := by
  by_cases h1 : serial < 1
  · go_enter Try.func83, Try.ntmps83
    go_wp2
    exact bodyPost_ret (v := .tuple #[.agg #[.int .i64 0, .int .i64 0, .int .i64 0, .int .i64 0], .int .i64 7]) (by simp [results, Try.results83, go_sem]) rfl ⟨rfl, (Below.refl _ _).alloc (Nat.le_refl _) _⟩
  · have h2 : (n : Int) < serial := by omega
    go_enter Try.func83, Try.ntmps83
    go_wp2
    exact bodyPost_ret (v := .tuple #[.agg #[.int .i64 0, .int .i64 0, .int .i64 0, .int .i64 0], .int .i64 7]) (by simp [results, Try.results83, go_sem]) rfl ⟨rfl, (Below.refl _ _).alloc (Nat.le_refl _) _⟩
set_option maxHeartbeats 1000000 in
theorem find_yes (w : World) (A : Option Addr) (c : Nat) (cs : List C4) (hr : Rd w w.heap.size 4 A cs.length (c4s cs)) (hn : cs.length ≤ 1000000) (k : Nat) (i r x s : Int) (hk : cs[k]? = some (i, r, x, s)) :
    Calls Try.prog 83 #[.slice A cs.length c, .int .i64 ((k : Int) + 1)] w fun e w' => e = .returned (.tuple #[.agg #[.int .i64 i, .int .i64 r, .int .i64 x, .int .i64 s], .int .i64 0]) ∧ Below w.heap.size w w' := by
  have hlt : k < cs.length := by
    rcases Nat.lt_or_ge k cs.length with h | h
    · exact h
    · rw [List.getElem?_eq_none h] at hk; cases hk
  obtain ⟨b, o, rfl, hb, hc⟩ := hr.2 (by omega)
  have hget := c4s_get cs k _ hk
  have q0 := (Below.refl w.heap.size w |>.alloc (Nat.le_refl _) (.cells #[.int .i64 0, .int .i64 0, .int .i64 0, .int .i64 0] 30) |>.cell (p := ⟨b, o + (k * 4 + 0), none⟩) hb).trans (hc _ _ (hget 0 _ rfl))
  have q1 := (Below.refl w.heap.size w |>.alloc (Nat.le_refl _) (.cells #[.int .i64 0, .int .i64 0, .int .i64 0, .int .i64 0] 30) |>.cell (p := ⟨b, o + (k * 4 + 1), none⟩) hb).trans (hc _ _ (hget 1 _ rfl))
  have q2 := (Below.refl w.heap.size w |>.alloc (Nat.le_refl _) (.cells #[.int .i64 0, .int .i64 0, .int .i64 0, .int .i64 0] 30) |>.cell (p := ⟨b, o + (k * 4 + 2), none⟩) hb).trans (hc _ _ (hget 2 _ rfl))
  have q3 := (Below.refl w.heap.size w |>.alloc (Nat.le_refl _) (.cells #[.int .i64 0, .int .i64 0, .int .i64 0, .int .i64 0] 30) |>.cell (p := ⟨b, o + (k * 4 + 3), none⟩) hb).trans (hc _ _ (hget 3 _ rfl))
  rw [← Nat.add_assoc] at q0 q1 q2 q3
  rw [Nat.add_zero] at q0
  simp only [] at q0 q1 q2 q3
  obtain ⟨n, hN⟩ : ∃ n, cs.length = n := ⟨_, rfl⟩
  rw [hN] at hlt hn ⊢
  have i1 : (k : Int) < n := by omega
  have i2 : (n : Int) ≤ 1000000 := by omega
  have i3 : ¬ ((k : Int) + 1 < 1) := by omega
  have i4 : ¬ ((n : Int) < (k : Int) + 1) := by omega
  have i5 : (0 : Int) ≤ k := by omega
  clear hr hN hc hget hk hb
  go_enter Try.func83, Try.ntmps83
  go_wp2
  exact bodyPost_ret (v := .tuple #[.agg #[.int .i64 i, .int .i64 r, .int .i64 x, .int .i64 s], .int .i64 0]) (by simp [results, Try.results83, go_sem]) rfl ⟨rfl, (Below.refl _ _).alloc (Nat.le_refl _) _⟩
theorem mfind_nil (w : World) (serial : Int) :
    Calls Try.prog 41 #[.pointer none, .int .i64 serial] w fun e w' => e = .returned (.tuple #[.agg #[.int .i64 0, .int .i64 0, .int .i64 0, .int .i64 0], .int .i64 11]) ∧ Below w.heap.size w w' := by
  go_enter Try.func41, Try.ntmps41
  go_wp2
  exact bodyPost_ret (v := .tuple #[.agg #[.int .i64 0, .int .i64 0, .int .i64 0, .int .i64 0], .int .i64 11]) (by simp [results, Try.results41, go_sem]) rfl ⟨rfl, (Below.refl _ _).alloc (Nat.le_refl _) _⟩
theorem info_cl4 (a b c d : Int) : (Try.prog.info? 30).map (·.size) = some (#[Value.int .i64 a, .int .i64 b, .int .i64 c, .int .i64 d] : Array Value).size := by kernel_rfl
theorem all4 (a b c d : Int) : (#[Value.int .i64 a, .int .i64 b, .int .i64 c, .int .i64 d] : Array Value).all (·.oneCell') = true := by simp [Value.oneCell']
set_option maxHeartbeats 1000000 in
theorem mfind_of (W w : World) (bl : Bl) (ow : List Ro) (g gk : Nat) (kb : List UInt8) (cs : List C4) (hM : MtX W bl ow g gk kb cs w) (serial i r x s e0 : Int)
    (hF : ∀ w' A c, Rd w' w'.heap.size 4 A cs.length (c4s cs) → Calls Try.prog 83 #[.slice A cs.length c, .int .i64 serial] w' fun e w2 => e = .returned (.tuple #[.agg #[.int .i64 i, .int .i64 r, .int .i64 x, .int .i64 s], .int .i64 e0]) ∧ Below w'.heap.size w' w2) :
    Calls Try.prog 41 #[.pointer (some ⟨g, 0, none⟩), .int .i64 serial] w fun e w' => e = .returned (.tuple #[.agg #[.int .i64 i, .int .i64 r, .int .i64 x, .int .i64 s], .int .i64 e0]) ∧ Below w.heap.size w w' := by
  have h1 := hM.newb 30 #[.int .i64 0, .int .i64 0, .int .i64 0, .int .i64 0]
  obtain ⟨A, c, c0, c1, hr, hc, hc2⟩ := h1.cells
  have HF := Lib.hid (hF _ A c hr)
  obtain ⟨n, hn⟩ : ∃ n, cs.length = n := ⟨_, rfl⟩
  rw [hn] at c0
  rw [hn] at HF
  clear hM hr hn c1 hF h1
  go_enter Try.func41, Try.ntmps41
  go_wp2_with fail
  refine HF.out.mono ?_
  rintro e w1 ⟨rfl, hb⟩
  have M1 := Lib.hid (((Mst.start w).new 30 #[.int .i64 0, .int .i64 0, .int .i64 0, .int .i64 0]).below hb)
  clear hb
  go_wp2_with (first | refine wpList_store_row rfl _ _ _ rfl w.heap.size #[.int .i64 i, .int .i64 r, .int .i64 x, .int .i64 s] rfl rfl 30 _ (M1.out.blk []) (info_cl4 _ _ _ _) rfl (all4 _ _ _ _) ?_)
  exact bodyPost_ret (results_cell2T rfl _ _ w.heap.size 30 _ (0, 0) _ rfl (setRow_heap _ _ _ _ _ _ (M1.out.blk [])) Try.underlying30 rfl (info_cl4 i r x s)) rfl ⟨rfl, (Mst.setRow (bl := []) [] M1.out _).bel⟩
theorem mfind_no (W w : World) (bl : Bl) (ow : List Ro) (g gk : Nat) (kb : List UInt8) (cs : List C4) (hM : MtX W bl ow g gk kb cs w) (serial : Int) (h : serial < 1 ∨ (cs.length : Int) < serial) :
    Calls Try.prog 41 #[.pointer (some ⟨g, 0, none⟩), .int .i64 serial] w fun e w' => e = .returned (.tuple #[.agg #[.int .i64 0, .int .i64 0, .int .i64 0, .int .i64 0], .int .i64 7]) ∧ Below w.heap.size w w' :=
  mfind_of W w bl ow g gk kb cs hM serial 0 0 0 0 7 fun w' A c _ => find_no w' A cs.length c serial h
theorem mfind_yes (W w : World) (bl : Bl) (ow : List Ro) (g gk : Nat) (kb : List UInt8) (cs : List C4) (hM : MtX W bl ow g gk kb cs w) (hn : cs.length ≤ 1000000) (k : Nat) (i r x s : Int) (hk : cs[k]? = some (i, r, x, s)) :
    Calls Try.prog 41 #[.pointer (some ⟨g, 0, none⟩), .int .i64 ((k : Int) + 1)] w fun e w' => e = .returned (.tuple #[.agg #[.int .i64 i, .int .i64 r, .int .i64 x, .int .i64 s], .int .i64 0]) ∧ Below w.heap.size w w' :=
  mfind_of W w bl ow g gk kb cs hM _ i r x s 0 fun w' A c h => find_yes w' A c cs h hn k i r x s hk

set_option maxRecDepth 100000 in
set_option maxHeartbeats 1000000 in
theorem issue_nil (w : World) (id ex : Int) (A : Option Addr) (n c : Nat) :
    Calls Try.prog 38 #[.pointer none, .int .i64 id, .int .i64 ex, .slice A n c] w fun e w' => e = .returned (.tuple #[.agg Y36, .int .i64 11]) ∧ Below w.heap.size w w' := by
  have Mq := Lib.hid ((Mst.start w).new 78 Y36)
  go_enter Try.func38, Try.ntmps38
  go_upto_region 2 with fail
  generalize hw0 : World.alloc _ _ = w0
  have Mq := Lib.hid (show Mst w w0 _ _ from hw0 ▸ Mq.out)
  clear hw0
  go_wp2_with (first | refine wpList_buildG rfl _ rfl (.agg Y36) (build_tok0 _) ?_ | refine wpList_store_row rfl _ _ _ rfl w.heap.size Y36 rfl rfl 78 _ (Mq.out.blk []) info_y36 rfl y36_one ?_)
  exact bodyPost_ret (results_cell2T (cs := Y36) rfl _ _ w.heap.size 78 (0, 0) _ rfl (setRow_heap _ _ _ _ _ _ (Mq.out.blk [])) Try.underlying78 rfl info_arr36) rfl (And.intro rfl (Mst.setRow (bl := []) [] Mq.out Y36).bel)

/-- The mask of roles, below 0: one is none. -/
def mskI (l : List Int) : Int := if rolesOk l then (maskN l : Int) else -1
set_option maxRecDepth 100000 in
set_option maxHeartbeats 1000000 in
theorem issue_role (W w : World) (bl : Bl) (ow : List Ro) (g gk : Nat) (kb : List UInt8) (cs : List C4) (hM : MtX W bl ow g gk kb cs w) (id ex : Int) (l : List Int) (Ar : Option Addr) (cr : Nat) (hl : Rd w w.heap.size 1 Ar l.length (l.map (.int .i64))) (hn : l.length ≤ 1000000) (hro : rolesOk l = false) :
    Calls Try.prog 38 #[.pointer (some ⟨g, 0, none⟩), .int .i64 id, .int .i64 ex, .slice Ar l.length cr] w fun e w' => e = .returned (.tuple #[.agg Y36, .int .i64 10]) ∧ MtX W bl ow g gk kb cs w' := by
  have h1 := hM.newb 78 Y36
  have HM := Lib.hid (show Calls Try.prog 82 #[.slice Ar l.length cr] (w.alloc (.cells Y36 78)) fun e w' => e = .returned (.tuple #[.int .i64 0, .int .i64 10]) ∧ w.alloc (.cells Y36 78) = w' from by
    have hb := (Below.refl w.heap.size w).alloc (Nat.le_refl _) (.cells Y36 78)
    refine (mask_any l Ar cr _ ((hl.below hb).more hb.size) (by unfold maxLen; omega)).mono ?_
    rintro e w' ⟨he, rfl⟩
    rw [hro] at he
    exact ⟨he, rfl⟩)
  obtain ⟨n, hnn⟩ : ∃ n, l.length = n := ⟨_, rfl⟩
  rw [hnn] at HM ⊢
  have Mq := Lib.hid h1
  clear hM hl hn hro hnn h1
  go_enter Try.func38, Try.ntmps38
  go_wp2_with fail
  refine HM.out.mono ?_
  rintro e w1 ⟨rfl, hw1⟩
  have Mq := Lib.hid (show MtX W ((w.heap.size, 78, Y36) :: bl) ow g gk kb cs w1 from hw1 ▸ Mq.out)
  clear hw1
  go_wp2_with (first | refine wpList_buildG rfl _ rfl (.agg Y36) (build_tok0 _) ?_ | refine wpList_store_row rfl _ _ _ rfl w.heap.size Y36 rfl rfl 78 _ (Mq.out.blk (x := (w.heap.size, 78, Y36)) (List.mem_cons_self ..)) info_y36 rfl y36_one ?_)
  exact bodyPost_ret (results_cell2T (cs := Y36) rfl _ _ w.heap.size 78 (0, 0) _ rfl (setRow_heap _ _ _ _ _ _ (Mq.out.blk (x := (w.heap.size, 78, Y36)) (List.mem_cons_self ..))) Try.underlying78 rfl info_arr36) rfl (And.intro rfl ((Mq.out.setRow Y36).sub (List.sublist_cons_self _ _) (List.Sublist.refl _)))
end Go.Proofs.Ytghcdffpplimoaa
