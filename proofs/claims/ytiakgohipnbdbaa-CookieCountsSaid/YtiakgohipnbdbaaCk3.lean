/- Contracts of package cookie: Bake, Check, Counts. -/
import Derived.Test.YtiakgohipnbdbaaCk2
import Derived.Deep.CutBlock
namespace Go.Proofs.Ytiakgohipnbdbaa
set_option linter.unusedVariables false
set_option linter.unusedSimpArgs false
open Go.RowKit

theorem results_cell2 {P : Program} {fn : Func} {p t2 : Tmp} {ty : TypeId} (h : fn.results = #[.cell p ty, .tmp t2]) (tmps : Array Value) (w : World) (g : Nat) (t : TypeId) (cs : Array Value) (fr : Nat × Nat) (d : TypeDesc)
    (hp : tmps.getD p undef = .pointer (some ⟨g, 0, none⟩)) (hg : w.heap[g]? = some (.cells cs t fr))
    (hu : P.underlying ty = some d) (hd : (match d with | .struct _ | .array _ _ => true | _ => false) = true) (hi : (P.info? ty).map (·.size) = some cs.size) :
    (results fn tmps).run P w = .ok (.tuple #[.agg cs, tmps.getD t2 undef]) w := by
  have hp' : tmps[p]?.getD undef = .pointer (some ⟨g, 0, none⟩) := by simpa using hp
  simp [results, h, hp', asAddr, run_loadVar_row w g t ty cs fr d hg hu hd hi]

set_option maxRecDepth 100000 in
set_option maxHeartbeats 1000000 in
theorem bake_any (W w : World) (bl : Bl) (ow : List Ro) (gb gk : Nat) (x y : Int) (kb : List UInt8) (hm : Mst W w ((gb, 117, bkc x y gk) :: bl) ow) (hkl : kb.length ≤ 1000)
    (hk : ∀ w' x y, Mst W w' ((gb, 117, bkc x y gk) :: bl) ow → KeyW w' gk kb) (A1 : Option Addr) (c1 : Nat) (ps : List Pt) (hp : ∀ w' x y, Mst W w' ((gb, 117, bkc x y gk) :: bl) ow → Pts w' A1 ps)
    (hn : ps.length ≤ 50) (hpl : ∀ p ∈ ps, p.l.length ≤ 1000) (a t : Nat) (ha : a < 65536) (ht : t ≤ 1073741824) (h0 : 0 ≤ x) (h1 : x < 2147483647) :
    Calls Try.prog 28 #[.pointer (some ⟨gb, 0, none⟩), .int .i64 (a : Int), .int .i64 (t : Int), .slice A1 ps.length c1] w fun e w' => e = .returned (.tuple #[.agg (b8a (ckB kb (t / 64) a (ps.map Pt.l))), .int .i64 0]) ∧
      Mst W w' ((gb, 117, bkc (x + 1) y gk) :: bl) ow := by
  obtain ⟨K8, hK8⟩ : ∃ K, ckB kb (t / 64) a (ps.map Pt.l) = K := ⟨_, rfl⟩
  have hKl8 : K8.length = 16 := by rw [← hK8]; exact ckB_len _ _ _ _
  have HO := Lib.hid (show ∀ w', Mst W w' ((gb, 117, bkc (x + 1) y gk) :: bl) ow → Calls Try.prog 64 #[.pointer (some ⟨gb, 0, none⟩), .int .i64 ((t / 64 : Nat) : Int), .int .i64 (a : Int), .slice A1 ps.length c1] w' fun e w2 => e = .returned (.agg (b8a K8)) ∧ Below w'.heap.size w' w2 from fun w' h => by
    have := of_any w' gb gk kb ((h.blk []).cell 2) (hk _ _ _ h) hkl (t / 64) a (by omega) ha A1 c1 ps (hp _ _ _ h) hn hpl
    rw [hK8] at this
    exact this)
  rw [hK8]
  have HC := Lib.hid (fun w => ckcheck_any gb a t w)
  have hok : okCk a t = true := by simp [okCk]; omega
  rw [hok] at HC
  have HE := Lib.hid (epoch_nat t (by omega))
  obtain ⟨n, hN⟩ : ∃ n, ps.length = n := ⟨_, rfl⟩
  obtain ⟨ep, hep⟩ : ∃ n, t / 64 = n := ⟨_, rfl⟩
  rw [hN] at HO ⊢
  rw [hep] at HO HE
  have KL8 := Lib.hid hKl8
  have m1 := hm.new 51 Y16
  have c0 : (w.alloc (.cells Y16 51)).cell? ⟨gb, 0, none⟩ = some (.int .i64 x) := (m1.blk [_]).cell 0
  have f0 := (m1.blk [_]).fr 0
  have HCT := Lib.hid (count_any gb 0 x _ c0 f0 h0 h1)
  have M2 := Lib.hid (show Mst W ((w.alloc (.cells Y16 51)).setCell ⟨gb, 0, none⟩ (.int .i64 (x + 1))) ((w.heap.size, 51, Y16) :: (gb, 117, bkc (x + 1) y gk) :: bl) ow from m1.put [_] 0 (.int .i64 (x + 1)))
  clear hm hk hp hpl hK8 hKl8 hok hN hep m1 c0 f0
  go_enter Try.func28, Try.ntmps28
  go_wp2_with fail
  refine (HC.out _).mono ?_
  rintro e w1 ⟨rfl, rfl⟩
  go_wp2_with fail
  refine HCT.out.mono ?_
  rintro e w1 ⟨rfl, hw1⟩
  have M2 := Lib.hid (M2.out.toW hw1.symm rfl)
  clear hw1
  go_wp2_with fail
  refine (HE.out _).mono ?_
  rintro e w3 ⟨rfl, rfl⟩
  go_wp2_with fail
  refine (HO.out _ M2.out.dropb).mono ?_
  rintro e w3 ⟨rfl, hb⟩
  have Mq := Lib.hid (M2.out.below hb)
  clear hb
  go_wp2_with (first | refine wpList_store_row rfl _ _ _ rfl w.heap.size (b8a K8) rfl rfl 51 _ (Mq.out.blk []) (info_16 KL8.out) (y16_k KL8.out) (b8a_one K8) ?_)
  exact bodyPost_ret (results_cell2 rfl _ _ w.heap.size 51 _ (0, 0) _ rfl (setRow_heap _ _ _ _ _ _ (Mq.out.blk [])) Try.underlying51 rfl (info_16 KL8.out)) rfl ⟨rfl, (Mst.setRow (bl := []) [] Mq.out (b8a K8)).dropb⟩
/-- What isn't right is not baked. -/
theorem bake_no (w : World) (gb : Nat) (a t : Int) (v : Value) (h : okCk a t = false) :
    Calls Try.prog 28 #[.pointer (some ⟨gb, 0, none⟩), .int .i64 a, .int .i64 t, v] w fun e w' => e = .returned (.tuple #[.agg Y16, .int .i64 10]) ∧ Below w.heap.size w w' := by
  have HC := Lib.hid (fun w => ckcheck_any gb a t w)
  rw [h] at HC
  have M1 := Lib.hid ((Mst.start w).new 51 Y16)
  go_enter Try.func28, Try.ntmps28
  go_wp2_with fail
  refine (HC.out _).mono ?_
  rintro e w1 ⟨rfl, rfl⟩
  go_wp2
  exact bodyPost_ret (results_cell2 rfl _ _ w.heap.size 51 _ (0, 0) _ rfl (M1.out.blk []) Try.underlying51 rfl info_arr16) rfl ⟨rfl, M1.out.bel⟩
theorem bake_nil (w : World) (a t : Int) (v : Value) :
    Calls Try.prog 28 #[.pointer none, .int .i64 a, .int .i64 t, v] w fun e w' => e = .returned (.tuple #[.agg Y16, .int .i64 11]) ∧ Below w.heap.size w w' := by
  have HC := Lib.hid (fun w => ckcheck_nil a t w)
  have M1 := Lib.hid ((Mst.start w).new 51 Y16)
  go_enter Try.func28, Try.ntmps28
  go_wp2_with fail
  refine (HC.out _).mono ?_
  rintro e w1 ⟨rfl, rfl⟩
  go_wp2
  exact bodyPost_ret (results_cell2 rfl _ _ w.heap.size 51 _ (0, 0) _ rfl (M1.out.blk []) Try.underlying51 rfl info_arr16) rfl ⟨rfl, M1.out.bel⟩

set_option maxRecDepth 100000 in
set_option maxHeartbeats 1000000 in
theorem counts_any (w : World) (gb gk : Nat) (x y : Int) (hx : 0 ≤ x ∧ x ≤ 2147483647) (hy : 0 ≤ y ∧ y ≤ 2147483647) (hb : Bk w gb 117 (bkc x y gk)) :
    Calls Try.prog 37 #[.pointer (some ⟨gb, 0, none⟩)] w fun e w' => e = .returned (.tuple #[.int .i64 x, .int .i64 y]) ∧ Below w.heap.size w w' := by
  have HL := Lib.hid (show ∀ w', Bk w' gb 117 (bkc x y gk) → Calls Try.prog 68 #[.pointer (some ⟨gb, 0, none⟩)] w' fun e w2 => e = .returned (.int .i64 x) ∧ w2 = w' from fun w' h => load_any gb 0 x w' (h.cell 0))
  have HL1 := Lib.hid (show ∀ w', Bk w' gb 117 (bkc x y gk) → Calls Try.prog 68 #[.pointer (some ⟨gb, 1, none⟩)] w' fun e w2 => e = .returned (.int .i64 y) ∧ w2 = w' from fun w' h => load_any gb 1 y w' (h.cell 1))
  have HB := Lib.hid hb.drew
  obtain ⟨hx1, hx2⟩ := hx
  obtain ⟨hy1, hy2⟩ := hy
  clear hb
  go_enter Try.func37, Try.ntmps37
  go_wp2_with fail
  refine wp_region_held_drew (S := fun _ => True) (by kernel_rfl) ?_ (fun hHeld => ?_)
  · trivial
  refine wpAnyH_take (i := 0) (v := ?_) rfl (by kernel_rfl) (by kernel_rfl) (by kernel_rfl) (fun _ _ _ h => h) (Or.inl ⟨by rfl, ?_⟩) (by assumption) ?_
  rotate_left
  · intro w hSw; (try dsimp only at hSw); go_split_ands; go_simp; with_reducible rfl
  change wpAnyH _ _ _ _ _ _ _ (Act.put _ (some 6) _) _
  simp only [Act.put, List.setIfInBounds_toArray, List.set_cons_zero, List.set_cons_succ, Array.toArray_toList]
  refine wpAnyH_take (i := 1) (v := ?_) rfl (by kernel_rfl) (by kernel_rfl) (by kernel_rfl) (fun _ _ _ h => h) (Or.inl ⟨by rfl, ?_⟩) (by assumption) ?_
  rotate_left
  · intro w hSw; (try dsimp only at hSw); go_split_ands; go_simp; with_reducible rfl
  change wpAnyH _ _ _ _ _ _ _ (Act.put _ (some 7) _) _
  simp only [Act.put, List.setIfInBounds_toArray, List.set_cons_zero, List.set_cons_succ, Array.toArray_toList]
  refine wpAnyH_take (i := 2) (v := ?_) rfl (by kernel_rfl) (by kernel_rfl) (by kernel_rfl) (fun _ _ _ h => h) (Or.inl ⟨by rfl, ?_⟩) (by assumption) ?_
  rotate_left
  · intro w hSw; (try dsimp only at hSw); go_split_ands; go_simp; with_reducible rfl
  change wpAnyH _ _ _ _ _ _ _ (Act.put _ (some 8) _) _
  simp only [Act.put, List.setIfInBounds_toArray, List.set_cons_zero, List.set_cons_succ, Array.toArray_toList]
  refine wpAnyH_take (i := 3) (v := ?_) rfl (by kernel_rfl) (by kernel_rfl) (by kernel_rfl) (fun _ _ _ h => h) (Or.inl ⟨by rfl, ?_⟩) (by assumption) ?_
  rotate_left
  · intro w hSw; (try dsimp only at hSw); go_split_ands; go_simp; with_reducible rfl
  change wpAnyH _ _ _ _ _ _ _ (Act.put _ (some 9) _) _
  simp only [Act.put, List.setIfInBounds_toArray, List.set_cons_zero, List.set_cons_succ, Array.toArray_toList]
  refine wpAnyH_take (i := 5) (v := ?_) rfl (by kernel_rfl) (by kernel_rfl) (by kernel_rfl) (fun _ _ _ h => h) (Or.inl ⟨by rfl, ?_⟩) (by assumption) ?_
  rotate_left
  · intro w hSw; (try dsimp only at hSw); go_split_ands; go_simp; with_reducible rfl
  change wpAnyH _ _ _ _ _ _ _ (Act.put _ (some 11) _) _
  simp only [Act.put, List.setIfInBounds_toArray, List.set_cons_zero, List.set_cons_succ, Array.toArray_toList]
  refine wpAnyH_take (i := 6) (v := ?_) rfl (by kernel_rfl) (by kernel_rfl) (by kernel_rfl) (fun _ _ _ h => h) (Or.inl ⟨by rfl, ?_⟩) (by assumption) ?_
  rotate_left
  · intro w hSw; (try dsimp only at hSw); go_split_ands; go_simp; with_reducible rfl
  change wpAnyH _ _ _ _ _ _ _ (Act.put _ (some 12) _) _
  simp only [Act.put, List.setIfInBounds_toArray, List.set_cons_zero, List.set_cons_succ, Array.toArray_toList]
  refine wpAnyH_take (i := 7) (v := ?_) rfl (by kernel_rfl) (by kernel_rfl) (by kernel_rfl) (fun _ _ _ h => h) (Or.inl ⟨by rfl, ?_⟩) (by assumption) ?_
  rotate_left
  · intro w hSw; (try dsimp only at hSw); go_split_ands; go_simp; with_reducible rfl
  change wpAnyH _ _ _ _ _ _ _ (Act.put _ (some 13) _) _
  simp only [Act.put, List.setIfInBounds_toArray, List.set_cons_zero, List.set_cons_succ, Array.toArray_toList]
  refine wpAnyH_take (i := 8) (v := ?_) rfl (by kernel_rfl) (by kernel_rfl) (by kernel_rfl) (fun _ _ _ h => h) (Or.inl ⟨by rfl, ?_⟩) (by assumption) ?_
  rotate_left
  · intro w hSw; (try dsimp only at hSw); go_split_ands; go_simp; with_reducible rfl
  change wpAnyH _ _ _ _ _ _ _ (Act.put _ (some 14) _) _
  simp only [Act.put, List.setIfInBounds_toArray, List.set_cons_zero, List.set_cons_succ, Array.toArray_toList]
  refine wpAnyH_ready (rs := [4]) (by kernel_rfl) (by simp) ?_
  refine (AllReadyH.cons rfl (fun K hK => ?_) AllReadyH.nil)
  go_simp
  (with_reducible refine (HL.out _ HB.out).mono ?_); rintro e wq ⟨rfl, rfl⟩
  go_wp2_with fail
  refine hK.out _ _ (by trivial) (fun hHeld => ?_)
  clear hK K
  refine wpAnyH_ready (rs := [9]) (by kernel_rfl) (by simp) ?_
  refine (AllReadyH.cons rfl (fun K hK => ?_) AllReadyH.nil)
  go_simp
  (with_reducible refine (HL1.out _ HB.out).mono ?_); rintro e wq ⟨rfl, rfl⟩
  go_wp2_with fail
  refine hK.out _ _ (by trivial) (fun hHeld => ?_)
  clear hK K
  refine wpAnyH_take (i := 10) (v := ?_) rfl (by kernel_rfl) (by kernel_rfl) (by kernel_rfl) (fun _ _ _ h => h) (Or.inl ⟨by rfl, ?_⟩) (by assumption) ?_
  rotate_left
  · intro w hSw; (try dsimp only at hSw); go_split_ands; go_simp; with_reducible rfl
  change wpAnyH _ _ _ _ _ _ _ (Act.put _ (some 2) _) _
  simp only [Act.put, List.setIfInBounds_toArray, List.set_cons_zero, List.set_cons_succ, Array.toArray_toList]
  refine wpAnyH_take (i := 11) (v := ?_) rfl (by kernel_rfl) (by kernel_rfl) (by kernel_rfl) (fun _ _ _ h => h) (Or.inl ⟨by rfl, ?_⟩) (by assumption) ?_
  rotate_left
  · intro w hSw; (try dsimp only at hSw); go_split_ands; go_simp; with_reducible rfl
  change wpAnyH _ _ _ _ _ _ _ (Act.put _ (some 3) _) _
  simp only [Act.put, List.setIfInBounds_toArray, List.set_cons_zero, List.set_cons_succ, Array.toArray_toList]
  refine wpAnyH_done (by kernel_rfl) ?_ _
  go_wp2
  go_ret2
  exact ⟨rfl, (Below.refl _ _).drew⟩
end Go.Proofs.Ytiakgohipnbdbaa
