/- Contracts of the tenth chapter's law: few, Key, Baker. -/
import Derived.Test.YtiakgohipnbdbaaCk5
import Derived.Test.YtiakgohipnbdbaaMark
namespace Go.Proofs.Ytiakgohipnbdbaa
set_option linter.unusedVariables false
set_option linter.unusedSimpArgs false
open Go.RowKit

theorem Mst.row1E {W w w2 : World} {bl : Bl} {ow : List Ro} {e : TypeId} {v : Value} (h : Mst W w bl ow) (hw : w.alloc (.cells #[v] e) = w2) : Mst W w2 bl (⟨e, 1, .slice (some ⟨w.heap.size, 0, none⟩) 1 1, 1, [v]⟩ :: ow) := by
  subst hw
  exact h.newrow e 1 1 1 #[v] (Nat.le_refl _) (by decide) rfl
structure F0R (w wr : World) (qs : List Pt) (k : Nat) (v1 : Value) : Prop where
  m : Mst w wr [] [⟨24, 1, v1, k, (qs.take k).map Pt.v⟩]
set_option maxRecDepth 100000 in
set_option maxHeartbeats 2000000 in
theorem few10_any (w : World) (A : Option Addr) (c : Nat) (ps : List Pt) (hp : Pts w A ps) (hc : ∀ p ∈ ps, p.l.length ≤ p.c ∧ p.c ≤ 9223372036854775807) (hn : ps.length ≤ 9223372036854775807) :
    Calls Try.prog 27 #[.slice A ps.length c] w fun e w' => ∃ A' c', e = .returned (.slice A' (fewP 3 40 ps).length c') ∧ Mst w w' [] [⟨24, 1, .slice A' (fewP 3 40 ps).length c', (fewP 3 40 ps).length, (fewP 3 40 ps).map Pt.v⟩] := by
  obtain ⟨n, hN⟩ : ∃ n, ps.length = n := ⟨_, rfl⟩
  obtain ⟨N, hN0⟩ : ∃ N, (fewP 3 40 ps).length = N := ⟨_, rfl⟩
  have hN1 : N ≤ 3 := by rw [← hN0, fewP_len]; omega
  have hN2 : N ≤ n := by rw [← hN0, fewP_len, hN]; omega
  have HN := Lib.hid (show N = n ∨ N = 3 by rw [← hN0, fewP_len, hN]; omega)
  have HNn := Lib.hid hN
  have HNN := Lib.hid hN0
  rw [hN] at hn ⊢
  rw [hN0]
  have HP := Lib.hid hp
  have HC := Lib.hid hc
  have hn1 : (n : Int) ≤ 9223372036854775807 := by omega
  clear hp hc hN hN0
  go_enter Try.func27, Try.ntmps27
  go_wp2_with fail
  go_loopg [4, 3] N (fun gk s3 s2 wr => ∃ k : Nat, k + gk = N ∧ s3 = .int .i64 k ∧ F0R w wr (fewP 3 40 ps) k s2)
  case atStart => exact ⟨0, by omega, rfl, ⟨(Mst.start w).nilrow _ _⟩⟩
  case round =>
    obtain ⟨k, hk, rfl, ⟨hm⟩⟩ := hrel
    by_cases hlt : k < N
    · obtain ⟨p, hpk⟩ : ∃ p, ps[k]? = some p := ⟨_, List.getElem?_eq_getElem (by have := HNn.out; omega)⟩
      obtain ⟨b, o, rfl, hb, hcell⟩ := HP.out.at_ (by have := HNn.out; omega)
      have c00 := hcell k p hpk
      have hq := fewP_get 3 40 hpk (by omega)
      obtain ⟨hpc, hpc2⟩ := HC.out p (List.mem_of_getElem? hpk)
      have e2 : (fewP 3 40 ps).take (k + 1) = (fewP 3 40 ps).take k ++ [p.cut 40] := by
        have hkl : k < (fewP 3 40 ps).length := by rw [HNN.out]; exact hlt
        rw [List.take_succ_eq_append_getElem hkl]
        rw [List.getElem?_eq_getElem hkl] at hq
        injection hq with hq
        rw [hq]
      obtain ⟨pA, pc, pl⟩ := p
      unfold Pt.v at c00
      simp only at c00 hpc hpc2
      obtain ⟨G, hG⟩ : ∃ G, pl.length = G := ⟨_, rfl⟩
      obtain ⟨L, hL, l2, l1⟩ := cut_n G 40
      have hmin : min (G : Int) 40 = (L : Int) := hL.symm
      have hLL : (pl.take 40).length = L := by rw [List.length_take]; omega
      have hx : ((fewP 3 40 ps).take (k + 1)).map Pt.v = ((fewP 3 40 ps).take k).map Pt.v ++ [.slice pA L pc] := by
        rw [e2, List.map_append]
        show _ ++ [Value.slice pA (pl.take 40).length pc] = _
        rw [hLL]
      rw [hG] at c00 hpc
      have C00 := Lib.hid (show ∀ w' bl ow, Mst w w' bl ow → w'.cell? ⟨b, o + k, none⟩ = some (.slice pA G pc) from fun w' bl ow h => h.old hb c00)
      obtain ⟨A3, c3, rfl, _⟩ := own_form (hm.row [])
      have k0 := C00.out _ _ _ hm.drew
      have Mq := Lib.hid hm.drew
      have HM := Lib.hid hm
      have HX := Lib.hid hx
      have i1 : (k : Int) < n := by omega
      have i2 : (0 : Int) ≤ k := by omega
      have i3 : (k : Int) < 3 := by omega
      have i4 : (0 : Int) ≤ (L : Int) := by omega
      have i6 : (L : Int) ≤ (pc : Int) := by omega
      clear hm hcell hq e2 hG hL hpk hx hLL
      go_wp2
      refine wp_region_held_drew (S := fun w' => w'.cell? ⟨b, o + k, none⟩ = some (.slice pA G pc)) (by kernel_rfl) ?_ (fun hHeld => ?_)
      · exact k0
      generalize World.drew wr = w1 at Mq hHeld ⊢
      refine wpAnyH_take (i := 0) (v := ?_) rfl (by kernel_rfl) (by kernel_rfl) (by kernel_rfl) (fun _ _ _ h => h) (Or.inl ⟨by rfl, ?_⟩) (by assumption) ?_
      rotate_left
      · intro w hSw; (try dsimp only at hSw); go_split_ands; go_simp; with_reducible rfl
      change wpAnyH _ _ _ _ _ _ _ (Act.put _ (some 15) _) _
      simp only [Act.put, List.setIfInBounds_toArray, List.set_cons_zero, List.set_cons_succ, Array.toArray_toList]
      refine wpAnyH_take (i := 1) (v := ?_) rfl (by kernel_rfl) (by kernel_rfl) (by kernel_rfl) (fun _ _ _ h => h) (Or.inl ⟨by rfl, ?_⟩) (by assumption) ?_
      rotate_left
      · intro w hSw; (try dsimp only at hSw); go_split_ands; go_simp; with_reducible rfl
      change wpAnyH _ _ _ _ _ _ _ (Act.put _ (some 16) _) _
      simp only [Act.put, List.setIfInBounds_toArray, List.set_cons_zero, List.set_cons_succ, Array.toArray_toList]
      refine wpAnyH_take (i := 2) (v := ?_) rfl (by kernel_rfl) (by kernel_rfl) (by kernel_rfl) (fun _ _ _ h => h) (Or.inl ⟨by rfl, ?_⟩) (by assumption) ?_
      rotate_left
      · intro w hSw; (try dsimp only at hSw); go_split_ands; go_simp; with_reducible rfl
      change wpAnyH _ _ _ _ _ _ _ (Act.put _ (some 17) _) _
      simp only [Act.put, List.setIfInBounds_toArray, List.set_cons_zero, List.set_cons_succ, Array.toArray_toList]
      refine wpAnyH_take (i := 3) (v := ?_) rfl (by kernel_rfl) (by kernel_rfl) (by kernel_rfl) (fun _ _ _ h => h) (Or.inl ⟨by rfl, ?_⟩) (by assumption) ?_
      rotate_left
      · intro w hSw; (try dsimp only at hSw); go_split_ands; go_simp; with_reducible rfl
      change wpAnyH _ _ _ _ _ _ _ (Act.put _ (some 18) _) _
      simp only [Act.put, List.setIfInBounds_toArray, List.set_cons_zero, List.set_cons_succ, Array.toArray_toList]
      refine wpAnyH_take (i := 4) (v := ?_) rfl (by kernel_rfl) (by kernel_rfl) (by kernel_rfl) (fun _ _ _ h => h) (Or.inl ⟨by rfl, ?_⟩) (by assumption) ?_
      rotate_left
      · intro w hSw; (try dsimp only at hSw); go_split_ands; go_simp; with_reducible rfl
      change wpAnyH _ _ _ _ _ _ _ (Act.put _ (some 19) _) _
      simp only [Act.put, List.setIfInBounds_toArray, List.set_cons_zero, List.set_cons_succ, Array.toArray_toList]
      refine wpAnyH_take (i := 5) (v := ?_) rfl (by kernel_rfl) (by kernel_rfl) (by kernel_rfl) (fun _ _ _ h => h) (Or.inl ⟨by rfl, ?_⟩) (by assumption) ?_
      rotate_left
      · intro w hSw; (try dsimp only at hSw); go_split_ands; go_simp; with_reducible rfl
      change wpAnyH _ _ _ _ _ _ _ (Act.put _ (some 20) _) _
      simp only [Act.put, List.setIfInBounds_toArray, List.set_cons_zero, List.set_cons_succ, Array.toArray_toList]
      refine wpAnyH_take (i := 6) (v := ?_) rfl (by kernel_rfl) (by kernel_rfl) (by kernel_rfl) (fun _ _ _ h => h) (Or.inl ⟨by rfl, ?_⟩) (by assumption) ?_
      rotate_left
      · intro w hSw; (try dsimp only at hSw); go_split_ands; go_simp; with_reducible rfl
      change wpAnyH _ _ _ _ _ _ _ (Act.put _ (some 21) _) _
      simp only [Act.put, List.setIfInBounds_toArray, List.set_cons_zero, List.set_cons_succ, Array.toArray_toList]
      refine wpAnyH_take (i := 7) (v := ?_) rfl (by kernel_rfl) (by kernel_rfl) (by kernel_rfl) (fun _ _ _ h => h) (Or.inl ⟨by rfl, ?_⟩) (by assumption) ?_
      rotate_left
      · intro w hSw; (try dsimp only at hSw); go_split_ands; go_simp; with_reducible rfl
      change wpAnyH _ _ _ _ _ _ _ (Act.put _ (some 22) _) _
      simp only [Act.put, List.setIfInBounds_toArray, List.set_cons_zero, List.set_cons_succ, Array.toArray_toList]
      refine wpAnyH_take (i := 8) (v := ?_) rfl (by kernel_rfl) (by kernel_rfl) (by kernel_rfl) (fun _ _ _ h => h) (Or.inl ⟨by rfl, ?_⟩) (by assumption) ?_
      rotate_left
      · intro w hSw; (try dsimp only at hSw); go_split_ands; go_simp; with_reducible rfl
      change wpAnyH _ _ _ _ _ _ _ (Act.put _ (some 23) _) _
      simp only [Act.put, List.setIfInBounds_toArray, List.set_cons_zero, List.set_cons_succ, Array.toArray_toList]
      refine wpAnyH_take (i := 9) (v := ?_) rfl (by kernel_rfl) (by kernel_rfl) (by kernel_rfl) (fun _ _ _ h => h) (Or.inl ⟨by rfl, ?_⟩) (by assumption) ?_
      rotate_left
      · intro w hSw; (try dsimp only at hSw); go_split_ands; go_simp; with_reducible rfl
      change wpAnyH _ _ _ _ _ _ _ (Act.put _ (some 24) _) _
      simp only [Act.put, List.setIfInBounds_toArray, List.set_cons_zero, List.set_cons_succ, Array.toArray_toList]
      refine wpAnyH_take (i := 10) (v := ?_) rfl (by kernel_rfl) (by kernel_rfl) (by kernel_rfl) (fun _ _ _ h => h) (Or.inl ⟨by rfl, ?_⟩) (by assumption) ?_
      rotate_left
      · intro w hSw; (try dsimp only at hSw); go_split_ands; go_simp; with_reducible rfl
      change wpAnyH _ _ _ _ _ _ _ (Act.put _ (some 25) _) _
      simp only [Act.put, List.setIfInBounds_toArray, List.set_cons_zero, List.set_cons_succ, Array.toArray_toList]
      refine wpAnyH_take (i := 11) (v := ?_) rfl (by kernel_rfl) (by kernel_rfl) (by kernel_rfl) (fun _ _ _ h => h) (Or.inl ⟨by rfl, ?_⟩) (by assumption) ?_
      rotate_left
      · intro w hSw; (try dsimp only at hSw); go_split_ands; go_simp; with_reducible rfl
      change wpAnyH _ _ _ _ _ _ _ (Act.put _ (some 26) _) _
      simp only [Act.put, List.setIfInBounds_toArray, List.set_cons_zero, List.set_cons_succ, Array.toArray_toList]
      refine wpAnyH_ready (rs := [12]) (by kernel_rfl) (by simp) ?_
      refine (AllReadyH.cons rfl (fun K hK => ?_) AllReadyH.nil)
      go_simp; generalize hwq : World.alloc _ _ = wq; have Mq := Lib.hid (Mq.out.row1E hwq); clear hwq
      refine hK.out _ _ (by exact C00.out _ _ _ Mq.out) (fun hHeld => ?_)
      clear hK K
      refine wpAnyH_ready (rs := [13]) (by kernel_rfl) (by simp) ?_
      refine (AllReadyH.cons rfl (fun K hK => ?_) AllReadyH.nil)
      refine step_appE rfl _ _ 46 rfl [_] Mq.out el_bs rfl _ (some ⟨w1.heap.size, 0, none⟩) 1 1 [.slice pA L pc] rfl (Mq.out.src (Mq.out.rowSrc (List.mem_cons_self ..))) (one1 _ rfl) (by unfold maxLen; omega) (by omega) ?_; intro A5 c5 wq N5 X5 hn5 hx5 mq; have Mq := Lib.hid mq; have HN5 := Lib.hid hn5; have HX5 := Lib.hid hx5; clear mq hn5 hx5
      refine hK.out _ _ (by exact C00.out _ _ _ Mq.out) (fun hHeld => ?_)
      clear hK K
      refine wpAnyH_take (i := 14) (v := ?_) rfl (by kernel_rfl) (by kernel_rfl) (by kernel_rfl) (fun _ _ _ h => h) (Or.inl ⟨by rfl, ?_⟩) (by assumption) ?_
      rotate_left
      · intro w hSw; (try dsimp only at hSw); go_split_ands; go_simp; with_reducible rfl
      change wpAnyH _ _ _ _ _ _ _ (Act.put _ (some 3) _) _
      simp only [Act.put, List.setIfInBounds_toArray, List.set_cons_zero, List.set_cons_succ, Array.toArray_toList]
      refine wpAnyH_done (by kernel_rfl) ?_ _
      go_wp2_with fail
      go_roundg (N - (k + 1))
      case measure => exact meas hk hlt
      case rel => exact ⟨k + 1, meas2 hlt, by go_num, ⟨by
        have m := Mq.out.sub (bl' := []) (ow' := [_]) (List.Sublist.refl _) (List.sublist_cons_self _ _)
        rw [HX5.out, ← HX.out, HN5.out] at m
        rw [HN5.out]
        exact m⟩⟩
    · obtain rfl : k = N := by omega
      have i1 : ¬ ((k : Int) < n) ∨ ¬ ((k : Int) < 3) := by have := HN.out; omega
      rw [List.take_of_length_le (by rw [HNN.out]; exact Nat.le_refl _)] at hm
      obtain ⟨A3, c3, rfl, _⟩ := own_form (hm.row [])
      have HM := Lib.hid hm
      clear hm hk hlt
      go_wp2_with fail
      all_goals (
        go_ret
        exact ⟨A3, c3, rfl, HM.out⟩)

/-- The key that the law makes. -/
abbrev digs : List UInt8 := [48, 49, 50, 51, 52, 53, 54, 55, 56, 57, 97, 98, 99, 100, 101, 102]
def keyL (l : List UInt8) : List UInt8 := l.take 54 ++ digs
theorem keyL_len (l : List UInt8) : (keyL l).length = min 54 l.length + 16 := by simp [keyL]
theorem b8a_digs : b8a digs = #[.int .u8 48, .int .u8 49, .int .u8 50, .int .u8 51, .int .u8 52, .int .u8 53, .int .u8 54, .int .u8 55, .int .u8 56, .int .u8 57, .int .u8 97, .int .u8 98, .int .u8 99, .int .u8 100, .int .u8 101, .int .u8 102] := rfl
set_option maxRecDepth 100000 in
set_option maxHeartbeats 2000000 in
theorem key10_any (w : World) (A : Option Addr) (c : Nat) (l : List UInt8) (hr : RB w w.heap.size A l) (hc : l.length ≤ c ∧ c ≤ 9223372036854775807) :
    Calls Try.prog 61 #[.slice A l.length c] w fun e w' => ∃ A' c', e = .returned (.slice A' (keyL l).length c') ∧ Mst w w' [] [⟨5, 1, .slice A' (keyL l).length c', (keyL l).length, by8 (keyL l)⟩] := by
  obtain ⟨N, hN⟩ : ∃ N, l.length = N := ⟨_, rfl⟩
  obtain ⟨hc1, hc2⟩ := hc
  have hr2 := hr.cut 54
  obtain ⟨n, hn, n2, n1⟩ := cut_n N 54
  obtain ⟨l', hl'⟩ : ∃ l', l.take 54 = l' := ⟨_, rfl⟩
  have hln : l'.length = n := by rw [← hl', List.length_take]; omega
  have hkl : keyL l = l' ++ digs := by unfold keyL; rw [hl']
  have hmin1 : min (N : Int) 54 = n := hn.symm
  rw [hl'] at hr2
  rw [hkl, show (l' ++ digs).length = n + 16 by rw [List.length_append, hln]; rfl, hN]
  rw [hN] at hc1
  have n4 : (0 : Int) ≤ n := by omega
  have n5 : (n : Int) ≤ c := by omega
  have R1 := Lib.hid (show Rd w w.heap.size 1 A n (by8 l') from by rw [← hln]; exact hr2)
  have M0 := Lib.hid ((Mst.start w).emptyE (e := 5) rfl)
  have hcv := fun (w : World) => Lib.run_convert_bytes_const (P := Try.prog) w 24 5 (b8a digs) 16 16 Try.underlying24 Try.underlying5
  rw [b8a_digs] at hcv
  have HDG := Lib.hid (show ∃ (cs : Array Value) (e : TypeId) (z : Nat × Nat), Obj.cells #[.int .u8 48, .int .u8 49, .int .u8 50, .int .u8 51, .int .u8 52, .int .u8 53, .int .u8 54, .int .u8 55, .int .u8 56, .int .u8 57, .int .u8 97, .int .u8 98, .int .u8 99, .int .u8 100, .int .u8 101, .int .u8 102] 5 (16, 17) = .cells cs e z ∧ ∀ (j : Nat) (u : Value), (by8 digs)[j]? = some u → cs[j]? = some u from ⟨_, _, _, rfl, fun j u hu => by rw [← b8a_digs]; simpa [b8a] using hu⟩)
  clear hr hr2 hln hl' hkl hN hn
  go_enter Try.func61, Try.ntmps61
  go_wp2_with (at_builtin; first
    | (refine wpList_appE rfl _ _ 24 rfl [] M0.out el_u8c rfl _ A n c (by8 l') rfl (M0.out.src (Src.old R1.out)) (by8_one _) (by unfold maxLen; omega) (by omega) ?_; intro A0 c0 wq N0 X0 hn0 hx0 mq; have HN0 := Lib.hid (show N0 = n by omega); have HX0 := Lib.hid (show X0 = by8 l' from hx0); have Z0 := Lib.hid (mq.mark0 (.cells #[.int .u8 48, .int .u8 49, .int .u8 50, .int .u8 51, .int .u8 52, .int .u8 53, .int .u8 54, .int .u8 55, .int .u8 56, .int .u8 57, .int .u8 97, .int .u8 98, .int .u8 99, .int .u8 100, .int .u8 101, .int .u8 102] 5 (16, 17))); clear mq hn0 hx0)
    | (refine wpList_appZE rfl _ _ 24 rfl [] Z0.out el_u8c rfl _ _ 16 16 (by8 digs) rfl (show Rd _ _ 1 _ digs.length (by8 digs) from Mz.rd (rows := []) Z0.out (SZ.marked HDG.out) (fun _ h => absurd h List.not_mem_nil)) (by8_one _) (by rw [HN0.out]; unfold maxLen; omega) (by rw [HN0.out]; omega) ?_; intro A9 c9 wq N9 X9 hn9 hx9 mq; have Mq := Lib.hid mq; have HN9 := Lib.hid (show N9 = n + 16 by rw [hn9, HN0.out]); have HX9 := Lib.hid (show X9 = by8 (l' ++ digs) by rw [hx9, HX0.out, by8_append]); clear mq hn9 hx9))
  go_ret
  have mq := (Mz.m Mq.out)
  rw [HN9.out, HX9.out] at mq
  exact ⟨A9, c9, by rw [HN9.out]; rfl, mq⟩
end Go.Proofs.Ytiakgohipnbdbaa
