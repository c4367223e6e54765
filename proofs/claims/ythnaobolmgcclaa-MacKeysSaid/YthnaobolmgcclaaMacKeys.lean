/-
  vigillaw02.MacKeys returns true, whatever it is called with. Conditions: none but that the slices can be read.
-/
import Derived.Test.YthnaobolmgcclaaKey3
import Derived.Test.YthnaobolmgcclaaJoin
import Derived.Test.YthnaobolmgcclaaOpenS
import Derived.Test.YthnaobolmgcclaaOpen2
namespace Go.Proofs.Ythnaobolmgcclaa
set_option linter.unusedVariables false
set_option linter.unusedSimpArgs false
open Go.RowKit

/-- All zero so far. -/
def zeroK (l : List UInt8) (k : Nat) : Bool := decide (l.take k = List.replicate (l.take k).length 0)
theorem zeroK_succ (l : List UInt8) (k : Nat) (b : UInt8) (h : l[k]? = some b) : zeroK l (k + 1) = (zeroK l k && decide (b = 0)) := by
  unfold zeroK
  rw [List.take_add_one, h, Bool.eq_iff_iff]
  simp only [Option.toList_some, decide_eq_true_eq, Bool.and_eq_true, List.length_append, List.length_cons, List.length_nil, Nat.zero_add]
  rw [List.replicate_succ']
  constructor
  · intro h1
    have := List.append_inj h1 (by simp)
    exact ⟨this.1, by simpa using this.2⟩
  · rintro ⟨h1, rfl⟩
    rw [← h1]
theorem zeroK_all (l : List UInt8) : zeroK l l.length = decide (l = List.replicate l.length 0) := by
  unfold zeroK
  rw [List.take_length]
theorem eq8 (w : World) : (binOp .eql 108 (.agg Y8) (.agg Y8)).run Try.prog w = .ok (.bool true) w := by
  have := run_eql_ints (P := Try.prog) w .u8 108 5 8 Try.underlying108 Try.underlying5 (size_of (by kernel_rfl)) [0, 0, 0, 0, 0, 0, 0, 0] [0, 0, 0, 0, 0, 0, 0, 0] rfl rfl
  rw [beq_self_eq_true] at this
  exact this
theorem Mst.toW {W w w2 w3 : World} {bl : Bl} {ow : List Ro} (h : Mst W w bl ow) (e : w2 = w3) (hh : w = w2) : Mst W w3 bl ow := by
  subst e hh
  exact h
set_option maxRecDepth 100000 in
set_option maxHeartbeats 6400000 in
theorem macKeys_main (W : World) (A B : Option Addr) (c d : Nat) (l : List UInt8) (S : ByteArray) (ps : List Pt) (hr : RB W W.heap.size A l) (hc : l.length ≤ c ∧ c ≤ 9223372036854775807) (hS : S.size ≤ maxLen)
    (hp : Rd W W.heap.size 1 B ps.length (ps.map Pt.v)) (hpc : ∀ p ∈ ps, RB W W.heap.size p.A p.l ∧ p.l.length ≤ p.c ∧ p.c ≤ 9223372036854775807) (hpn : ps.length ≤ 9223372036854775807) :
    Calls Try.prog 14 #[.slice A l.length c, .string S, .slice B ps.length d] W fun e W' => e = .returned (.bool true) ∧ Below W.heap.size W W' := by
  unfold maxLen at hS
  obtain ⟨N, hN⟩ : ∃ N, l.length = N := ⟨_, rfl⟩
  obtain ⟨M, hM⟩ : ∃ M, S.size = M := ⟨_, rfl⟩
  rw [hN] at hc ⊢
  rw [hM] at hS
  obtain ⟨hc1, hc2⟩ := hc
  have hr2 := hr.cut 150
  obtain ⟨n, hn, n2, n1⟩ := cut_n N 150
  obtain ⟨m, hm, m2, m1⟩ := cut_n M 60
  obtain ⟨l', hl'⟩ : ∃ l', l.take 150 = l' := ⟨_, rfl⟩
  have hln : l'.length = n := by rw [← hl', List.length_take]; omega
  rw [hl'] at hr2
  have hmin1 : min (N : Int) 150 = n := hn.symm
  have hmin2 : min (M : Int) 60 = m := hm.symm
  have n4 : (0 : Int) ≤ n := by omega
  have m4 : (0 : Int) ≤ m := by omega
  have n5 : (n : Int) ≤ c := by omega
  have m5 : (m : Int) ≤ M := by omega
  have HLN := Lib.hid hln
  have R1 := Lib.hid (show Rd W W.heap.size 1 A n (by8 l') from by rw [← hln]; exact hr2)
  have HF := Lib.hid (show ∀ w', Below W.heap.size W w' → Calls Try.prog 49 #[.slice B ps.length d] w' fun e w2 => ∃ v1 v2, e = .returned (.tuple #[v1, v2]) ∧ FeR w' w2 (fewP 8 60 ps) (fewP 8 60 ps).length v1 v2 from fun w' hb => few2_any w' B d ps ⟨(hp.below hb).more hb.size, fun p h => ((hpc p h).1.below hb).more hb.size⟩ (fun p h => (hpc p h).2) hpn)
  have hq := fewP_old (M := 8) (N := 60) fun p h => (hpc p h).1
  have hq6 := fewP_le 8 60 ps
  have hlen : (fewP 8 60 ps).length ≤ 8 := by rw [fewP_len]; omega
  have hcl := few2_cat (ps := ps)
  obtain ⟨qs, hqs⟩ : ∃ q, fewP 8 60 ps = q := ⟨_, rfl⟩
  rw [hqs] at HF hq hlen hq6 hcl
  have HQ := Lib.hid hq
  have HQ6 := Lib.hid hq6
  obtain ⟨g, hG⟩ : ∃ n, qs.length = n := ⟨_, rfl⟩
  rw [hG] at HF hlen
  have HG := Lib.hid hG
  obtain ⟨pn, hPN⟩ : ∃ n, ps.length = n := ⟨_, rfl⟩
  rw [hPN] at HF ⊢
  obtain ⟨KT, hKT⟩ := rsum_ex
  have HKT := Lib.hid hKT
  have HMK := Lib.hid hKT.make
  have Mq := Lib.hid (Mst.start W).drew
  clear hr hr2 hln hl' hn hm hp hpc hpn hq hqs hPN hKT hG hq6
  go_enter Try.func14, Try.ntmps14
  go_wp2_with fail
  refine wp_region_held_drew (S := fun _ => True) (by kernel_rfl) ?_ (fun hHeld => ?_)
  · trivial
  generalize World.drew W = w0 at Mq hHeld ⊢
  refine wpAnyH_take (i := 1) (v := ?_) rfl (by kernel_rfl) (by kernel_rfl) (by kernel_rfl) (fun _ _ _ h => h) (Or.inl ⟨by rfl, ?_⟩) (by assumption) ?_
  rotate_left
  · intro w hSw; (try dsimp only at hSw); go_split_ands; go_simp; with_reducible rfl
  change wpAnyH _ _ _ _ _ _ _ (Act.put _ (some 19) _) _
  simp only [Act.put, List.setIfInBounds_toArray, List.set_cons_zero, List.set_cons_succ, Array.toArray_toList]
  refine wpAnyH_take (i := 2) (v := ?_) rfl (by kernel_rfl) (by kernel_rfl) (by kernel_rfl) (fun _ _ _ h => h) (Or.inl ⟨by rfl, ?_⟩) (by assumption) ?_
  rotate_left
  · intro w hSw; (try dsimp only at hSw); go_split_ands; go_simp; with_reducible rfl
  change wpAnyH _ _ _ _ _ _ _ (Act.put _ (some 20) _) _
  simp only [Act.put, List.setIfInBounds_toArray, List.set_cons_zero, List.set_cons_succ, Array.toArray_toList]
  refine wpAnyH_take (i := 3) (v := ?_) rfl (by kernel_rfl) (by kernel_rfl) (by kernel_rfl) (fun _ _ _ h => h) (Or.inl ⟨by rfl, ?_⟩) (by assumption) ?_
  rotate_left
  · intro w hSw; (try dsimp only at hSw); go_split_ands; go_simp; with_reducible rfl
  change wpAnyH _ _ _ _ _ _ _ (Act.put _ (some 21) _) _
  simp only [Act.put, List.setIfInBounds_toArray, List.set_cons_zero, List.set_cons_succ, Array.toArray_toList]
  refine wpAnyH_take (i := 4) (v := ?_) rfl (by kernel_rfl) (by kernel_rfl) (by kernel_rfl) (fun _ _ _ h => h) (Or.inl ⟨by rfl, ?_⟩) (by assumption) ?_
  rotate_left
  · intro w hSw; (try dsimp only at hSw); go_split_ands; go_simp; with_reducible rfl
  change wpAnyH _ _ _ _ _ _ _ (Act.put _ (some 22) _) _
  simp only [Act.put, List.setIfInBounds_toArray, List.set_cons_zero, List.set_cons_succ, Array.toArray_toList]
  refine wpAnyH_take (i := 5) (v := ?_) rfl (by kernel_rfl) (by kernel_rfl) (by kernel_rfl) (fun _ _ _ h => h) (Or.inl ⟨by rfl, ?_⟩) (by assumption) ?_
  rotate_left
  · intro w hSw; (try dsimp only at hSw); go_split_ands; go_simp; with_reducible rfl
  change wpAnyH _ _ _ _ _ _ _ (Act.put _ (some 23) _) _
  simp only [Act.put, List.setIfInBounds_toArray, List.set_cons_zero, List.set_cons_succ, Array.toArray_toList]
  refine wpAnyH_take (i := 7) (v := ?_) rfl (by kernel_rfl) (by kernel_rfl) (by kernel_rfl) (fun _ _ _ h => h) (Or.inl ⟨by rfl, ?_⟩) (by assumption) ?_
  rotate_left
  · intro w hSw; (try dsimp only at hSw); go_split_ands; go_simp; with_reducible rfl
  change wpAnyH _ _ _ _ _ _ _ (Act.put _ (some 25) _) _
  simp only [Act.put, List.setIfInBounds_toArray, List.set_cons_zero, List.set_cons_succ, Array.toArray_toList]
  refine wpAnyH_take (i := 8) (v := ?_) rfl (by kernel_rfl) (by kernel_rfl) (by kernel_rfl) (fun _ _ _ h => h) (Or.inl ⟨by rfl, ?_⟩) (by assumption) ?_
  rotate_left
  · intro w hSw; (try dsimp only at hSw); go_split_ands; go_simp; with_reducible rfl
  change wpAnyH _ _ _ _ _ _ _ (Act.put _ (some 26) _) _
  simp only [Act.put, List.setIfInBounds_toArray, List.set_cons_zero, List.set_cons_succ, Array.toArray_toList]
  refine wpAnyH_take (i := 9) (v := ?_) rfl (by kernel_rfl) (by kernel_rfl) (by kernel_rfl) (fun _ _ _ h => h) (Or.inl ⟨by rfl, ?_⟩) (by assumption) ?_
  rotate_left
  · intro w hSw; (try dsimp only at hSw); go_split_ands; go_simp; with_reducible rfl
  change wpAnyH _ _ _ _ _ _ _ (Act.put _ (some 27) _) _
  simp only [Act.put, List.setIfInBounds_toArray, List.set_cons_zero, List.set_cons_succ, Array.toArray_toList]
  refine wpAnyH_take (i := 10) (v := ?_) rfl (by kernel_rfl) (by kernel_rfl) (by kernel_rfl) (fun _ _ _ h => h) (Or.inl ⟨by rfl, ?_⟩) (by assumption) ?_
  rotate_left
  · intro w hSw; (try dsimp only at hSw); go_split_ands; go_simp; with_reducible rfl
  change wpAnyH _ _ _ _ _ _ _ (Act.put _ (some 28) _) _
  simp only [Act.put, List.setIfInBounds_toArray, List.set_cons_zero, List.set_cons_succ, Array.toArray_toList]
  refine wpAnyH_take (i := 11) (v := ?_) rfl (by kernel_rfl) (by kernel_rfl) (by kernel_rfl) (fun _ _ _ h => h) (Or.inl ⟨by rfl, ?_⟩) (by assumption) ?_
  rotate_left
  · intro w hSw; (try dsimp only at hSw); go_split_ands; go_simp; with_reducible rfl
  change wpAnyH _ _ _ _ _ _ _ (Act.put _ (some 29) _) _
  simp only [Act.put, List.setIfInBounds_toArray, List.set_cons_zero, List.set_cons_succ, Array.toArray_toList]
  refine wpAnyH_ready (rs := [0]) (by kernel_rfl) (by simp) ?_
  refine (AllReadyH.cons rfl (fun K hK => ?_) AllReadyH.nil)
  go_simp; generalize hwq : World.alloc _ _ = wq; have Mq := Lib.hid (Mq.out.emptyE hwq); clear hwq
  refine hK.out _ _ (by trivial) (fun hHeld => ?_)
  clear hK K
  refine wpAnyH_ready (rs := [6]) (by kernel_rfl) (by simp) ?_
  refine (AllReadyH.cons rfl (fun K hK => ?_) AllReadyH.nil)
  refine step_appE rfl _ _ 26 rfl [] Mq.out el_u8c rfl _ A n c (by8 l') rfl (Mq.out.src (Src.old R1.out)) (by8_one _) (by unfold maxLen; omega) (by omega) ?_; intro A0 c0 wq N0 X0 hn0 hx0 mq; have Mq := Lib.hid mq; have HN0 := Lib.hid (show N0 = n by omega); have HX0 := Lib.hid (show X0 = by8 l' from hx0); clear mq hn0 hx0
  refine hK.out _ _ (by trivial) (fun hHeld => ?_)
  clear hK K
  refine wpAnyH_take (i := 12) (v := ?_) rfl (by kernel_rfl) (by kernel_rfl) (by kernel_rfl) (fun _ _ _ h => h) (Or.inl ⟨by rfl, ?_⟩) (by assumption) ?_
  rotate_left
  · intro w hSw; (try dsimp only at hSw); go_split_ands; go_simp; with_reducible rfl
  change wpAnyH _ _ _ _ _ _ _ (Act.put _ (some 0) _) _
  simp only [Act.put, List.setIfInBounds_toArray, List.set_cons_zero, List.set_cons_succ, Array.toArray_toList]
  refine wpAnyH_take (i := 13) (v := ?_) rfl (by kernel_rfl) (by kernel_rfl) (by kernel_rfl) (fun _ _ _ h => h) (Or.inl ⟨by rfl, ?_⟩) (by assumption) ?_
  rotate_left
  · intro w hSw; (try dsimp only at hSw); go_split_ands; go_simp; with_reducible rfl
  change wpAnyH _ _ _ _ _ _ _ (Act.put _ (some 1) _) _
  simp only [Act.put, List.setIfInBounds_toArray, List.set_cons_zero, List.set_cons_succ, Array.toArray_toList]
  refine wpAnyH_done (by kernel_rfl) ?_ _
  have mq := Mq.out
  rw [HN0.out, HX0.out] at mq
  rw [HN0.out]
  have Mq := Lib.hid mq
  obtain ⟨S', hS'⟩ : ∃ B', S.extract 0 m = B' := ⟨_, rfl⟩
  rw [hS']
  have hSs : S'.size = m := by rw [← hS', ByteArray.size_extract]; omega
  have HSS := Lib.hid hSs
  clear mq HN0 HX0 hmin1 hmin2 hS' hSs
  go_wp2_with fail
  refine (HF.out _ Mq.out.bel).mono ?_
  rintro e w1 ⟨v1, v2, rfl, ⟨hfe⟩⟩
  rw [← HG.out, List.take_of_length_le (Nat.le_refl _)] at hfe
  have Mq := Lib.hid (Mq.out.join hfe)
  obtain ⟨A1, c1, rfl, -⟩ := own_form (Mq.out.row [])
  obtain ⟨A2, c2, rfl, -⟩ := own_form (Mq.out.row [_])
  obtain ⟨T, hT⟩ : ∃ T, catP qs = T := ⟨_, rfl⟩
  obtain ⟨TL, hTL⟩ : ∃ n, T.length = n := ⟨_, rfl⟩
  rw [hT, hTL, HG.out] at Mq
  rw [hT, hTL, HG.out]
  rw [hT, hTL] at hcl
  have HT := Lib.hid hT
  have HTL := Lib.hid hTL
  clear hfe hT hTL HF
  go_wp2_with fail
  refine (HMK.out _).mono ?_
  rintro e w2 ⟨rfl, hb⟩
  have Mq := Lib.hid (Mq.out.below hb)
  have Mq := Lib.hid (Mst.setRow (bl := []) [] (Mq.out.new 60 Z72) KT)
  clear hb
  go_upto_region 4 with (first | refine wpList_store_row rfl _ _ _ rfl w2.heap.size KT rfl rfl 60 _ (Bk.mk_ _ _ _) HKT.out.inf HKT.out.z72 HKT.out.one ?_)
  obtain ⟨g9, hg9⟩ : ∃ g, w2.heap.size = g := ⟨_, rfl⟩
  rw [hg9] at Mq ⊢
  generalize hw3 : World.setRow _ _ _ = w3
  have Mq := Lib.hid (Mq.out.toW hw3 rfl)
  clear hg9 hw3
  have HNW := Lib.hid (show Calls Try.prog 66 #[.slice A0 n c0] w3 _ from by
    have := new_M W w3 _ _ Mq.out A0 c0 l' (by unfold RB; rw [HLN.out]; exact Mq.out.src (Mq.out.rowSrc (List.mem_cons_of_mem _ (List.mem_cons_of_mem _ (List.mem_cons_self ..))))) (by rw [HLN.out]; omega)
    rw [HLN.out] at this
    exact this)
  go_wp2_with fail
  refine HNW.out.mono ?_
  rintro e w4 ⟨gK, Ak, ck, rfl, mq⟩
  have Mq := Lib.hid mq
  clear mq HNW
  go_wp2_with fail
  obtain ⟨BL, hBL⟩ : ∃ b : Bl, [(gK, 147, #[Value.slice Ak n ck]), (g9, 60, KT)] = b := ⟨_, rfl⟩
  obtain ⟨OW, hOW⟩ : ∃ b : List Ro, [⟨5, 1, .slice Ak n ck, n, by8 l'⟩, ⟨26, 1, .slice A1 g c1, g, qs.map Pt.v⟩, ⟨5, 1, .slice A2 TL c2, TL, by8 T⟩, ⟨5, 1, .slice A0 n c0, n, by8 l'⟩] = b := ⟨_, rfl⟩
  have Mq := Lib.hid (show Mst W w4 BL OW from by rw [← hBL, ← hOW]; exact Mq.out)
  have S0 := Lib.hid (show Src W BL OW 1 A0 n (by8 l') from Mq.out.rowSrc (e := 5) (c := c0) (by rw [← hOW]; simp))
  have S1 := Lib.hid (show SPts W BL OW A1 qs from ⟨by rw [HG.out]; exact Mq.out.rowSrc (e := 26) (c := c1) (by rw [← hOW]; simp), fun p h => Src.old (HQ.out p h)⟩)
  have S2 := Lib.hid (show Src W BL OW 1 A2 TL (by8 T) from Mq.out.rowSrc (e := 5) (c := c2) (by rw [← hOW]; simp))
  have SK := Lib.hid (show Src W BL OW 1 Ak n (by8 l') from Mq.out.rowSrc (e := 5) (c := ck) (by rw [← hOW]; simp))
  have HBL := Lib.hid hBL
  have HOW := Lib.hid hOW
  clear hBL hOW
  go_loopg [12, 11] n (fun gg s12 s11 wr => ∃ k : Nat, k + gg = n ∧ s12 = .int .i64 k ∧ s11 = .bool (zeroK l' k) ∧ Mst W wr BL OW)
  case atStart => exact ⟨0, by omega, rfl, by simp [zeroK], Mq.out⟩
  case round =>
    obtain ⟨k, hk, rfl, rfl, hm⟩ := hrel
    have Mr := Lib.hid hm
    clear hm
    by_cases hlt : k < n
    · obtain ⟨b, hb⟩ : ∃ b, l'[k]? = some b := ⟨_, List.getElem?_eq_getElem (by have := HLN.out; omega)⟩
      have HZ := Lib.hid (zeroK_succ l' k b hb)
      obtain ⟨gb, ob, rfl, hgl, hcell⟩ := (Mr.out.src S0.out).2 (by omega)
      have e0 := hcell k _ (by8_get hb)
      have e1 := Bv_zero b
      have i1 : (k : Int) < n := by omega
      have i2 : (0 : Int) ≤ k := by omega
      clear hb hcell
      cases hB : zeroK l' k with
      | true =>
        rw [hB] at HZ
        clear hB
        go_wp2_with fail
        go_roundg (n - (k + 1))
        case measure => exact meas hk hlt
        case rel => exact ⟨k + 1, meas2 hlt, by go_num, by rw [HZ.out, Bool.true_and], Mr.out⟩
      | false =>
        rw [hB] at HZ
        clear hB
        go_wp2_with fail
        go_roundg (n - (k + 1))
        case measure => exact meas hk hlt
        case rel => exact ⟨k + 1, meas2 hlt, by go_num, by rw [HZ.out, Bool.false_and], Mr.out⟩
    · obtain rfl : k = n := by omega
      have hza := zeroK_all l'
      rw [HLN.out] at hza
      obtain ⟨Z, hZ⟩ : ∃ Z, zeroK l' k = Z := ⟨_, rfl⟩
      rw [hZ] at hza ⊢
      have HZA := Lib.hid hza
      have Mq := Lib.hid Mr.out
      have T0 := Lib.hid (show ∀ w' bl ow, Mst W w' (bl ++ BL) (ow ++ OW) → w'.rangeAt g9 0 KT.toList from fun w' bl ow h => by
        rw [← HBL.out] at h
        exact Bk.rangeL (h.bk (g9, 60, KT) (by simp)).1)
      have U0 := Lib.hid (show ∀ w' bl ow, Mst W w' (bl ++ BL) (ow ++ OW) → Rd w' w'.heap.size 1 A0 k (by8 l') from fun w' bl ow h => h.src (S0.out.sub (fun _ h => List.mem_append_right _ h) (fun _ h => List.mem_append_right _ h)))
      have U1 := Lib.hid (show ∀ w' bl ow, Mst W w' (bl ++ BL) (ow ++ OW) → Pts w' A1 qs from fun w' bl ow h => h.pts (S1.out.sub (fun _ h => List.mem_append_right _ h) (fun _ h => List.mem_append_right _ h)))
      have U2 := Lib.hid (show ∀ w' bl ow, Mst W w' (bl ++ BL) (ow ++ OW) → Rd w' w'.heap.size 1 A2 TL (by8 T) from fun w' bl ow h => h.src (S2.out.sub (fun _ h => List.mem_append_right _ h) (fun _ h => List.mem_append_right _ h)))
      have UK := Lib.hid (show ∀ w' bl ow, Mst W w' (bl ++ BL) (ow ++ OW) → KeyW w' gK l' from fun w' bl ow h => h.key (t := 147) (c := ck) (n := k) (A := Ak) (List.mem_append_right _ (by rw [← HBL.out]; simp)) HLN.out (SK.out.sub (fun _ h => List.mem_append_right _ h) (fun _ h => List.mem_append_right _ h)))
      obtain ⟨K3, hK3⟩ : ∃ K, macT l' (frameB (S'.data.toList :: qs.map Pt.l)) = K := ⟨_, rfl⟩
      have hKl3 : K3.length = 32 := by rw [← hK3]; rfl
      obtain ⟨K4, hK4⟩ : ∃ K, macT l' (frameB [printS.data.toList]) = K := ⟨_, rfl⟩
      have hKl4 : K4.length = 32 := by rw [← hK4]; rfl
      have HRD := Lib.hid (show ∀ w', Rd w' w'.heap.size 1 A0 k (by8 l') → Pts w' A1 qs → Calls Try.prog 54 #[.agg KT, .slice A0 k c0, .string S', .slice A1 g c1] w' fun e w2 => e = .returned (.agg (b8a K3)) ∧ Below w'.heap.size w' w2 from fun w' h1 h2 => by
        have := refderive_any KT HKT.out w' A0 c0 l' (by unfold RB; rw [HLN.out]; exact h1) (by rw [HLN.out]; omega) S' (by rw [HSS.out]; omega) A1 c1 qs h2 (by rw [HG.out]; omega) (fun p hp => Nat.le_trans (HQ6.out p hp) (by decide))
        rw [HLN.out, HG.out, hK3] at this
        exact this)
      have HRD4 := Lib.hid (show ∀ w', Rd w' w'.heap.size 1 A0 k (by8 l') → Calls Try.prog 54 #[.agg KT, .slice A0 k c0, .string printS, .slice none 0 0] w' fun e w2 => e = .returned (.agg (b8a K4)) ∧ Below w'.heap.size w' w2 from fun w' h1 => by
        have := refderive_any KT HKT.out w' A0 c0 l' (by unfold RB; rw [HLN.out]; exact h1) (by rw [HLN.out]; omega) printS (by decide) none 0 [] ⟨Rd.nil_ _ _ _ _, by simp⟩ (by simp) (by simp)
        rw [HLN.out] at this
        rw [← hK4]
        exact this)
      have KL3 := Lib.hid hKl3
      have KL4 := Lib.hid hKl4
      have HK3 := Lib.hid hK3
      have HK4 := Lib.hid hK4
      have L0 := Lib.hid (T0.out wr [] [] Mq.out)
      clear hza hZ hlt hk hK3 hK4 hKl3 hKl4
      go_wp2_with (first | refine wpList_load_mid rfl _ _ rfl g9 0 rfl KT.toList _ L0.out Try.underlying60 rfl HKT.out.infL ?_)
      refine (HRD.out _ (U0.out _ [] [] Mq.out) (U1.out _ [] [] Mq.out)).mono ?_
      rintro e w5 ⟨rfl, hb⟩
      have Mq := Lib.hid ((Mq.out.below hb).arr32 K3)
      clear hb
      have L1 := Lib.hid (T0.out _ [_] [] Mq.out)
      go_upto_region 11 with (first | refine wpList_store_row rfl _ _ _ rfl w5.heap.size (b8a K3) rfl rfl 54 _ (Bk.mk_ _ _ _) (info_k KL3.out) (y32_k KL3.out) (b8a_one K3) ?_)
      obtain ⟨g13, hg13⟩ : ∃ g, w5.heap.size = g := ⟨_, rfl⟩
      rw [hg13] at Mq L1 ⊢
      generalize hw6 : World.setRow _ _ _ = w6
      have Mq := Lib.hid (Mq.out.toW hw6 rfl)
      have L1 := Lib.hid (T0.out _ [_] [] Mq.out)
      clear hg13 hw6
      go_wp2_with (first | refine wpList_load_mid rfl _ _ rfl g9 0 rfl KT.toList _ L1.out Try.underlying60 rfl HKT.out.infL ?_)
      refine (HRD4.out _ (U0.out _ [_] [] Mq.out)).mono ?_
      rintro e w7 ⟨rfl, hb⟩
      have Mq := Lib.hid ((Mq.out.below hb).arr32 K4)
      clear hb
      go_upto_region 12 with (first | refine wpList_store_row rfl _ _ _ rfl w7.heap.size (b8a K4) rfl rfl 54 _ (Bk.mk_ _ _ _) (info_k KL4.out) (y32_k KL4.out) (b8a_one K4) ?_)
      obtain ⟨g14, hg14⟩ : ∃ g, w7.heap.size = g := ⟨_, rfl⟩
      rw [hg14] at Mq ⊢
      generalize hw8 : World.setRow _ _ _ = w8
      have Mq := Lib.hid (Mq.out.toW hw8 rfl)
      clear hg14 hw8
      obtain ⟨K8, hK8⟩ : ∃ K, printB l' = K := ⟨_, rfl⟩
      have hKl8 : K8.length = 8 := by rw [← hK8]; exact printB_len l'
      have HPR := Lib.hid (kprint_any w8 gK l' (UK.out _ [_, _] [] Mq.out) (by rw [HLN.out]; omega))
      rw [hK8] at HPR
      have KL8 := Lib.hid hKl8
      have HK8 := Lib.hid (show K4.take 8 = K8 by rw [← hK8, ← HK4.out]; rfl)
      clear hK8 hKl8
      go_wp2_with fail
      refine HPR.out.mono ?_
      rintro e w9 ⟨rfl, hb⟩
      have Mq := Lib.hid (Mst.setRow (bl := []) [] ((Mq.out.below hb).new 108 Y8) (b8a K8))
      clear hb HPR
      go_upto_region 13 with (first | refine wpList_store_row rfl _ _ _ rfl w9.heap.size (b8a K8) rfl rfl 108 _ (Bk.mk_ _ _ Y8) (info_8 KL8.out) (y8_k KL8.out) (b8a_one K8) ?_)
      obtain ⟨g15, hg15⟩ : ∃ g, w9.heap.size = g := ⟨_, rfl⟩
      rw [hg15] at Mq ⊢
      generalize hw10 : World.setRow _ _ _ = w10
      have Mq := Lib.hid (Mq.out.toW hw10 rfl)
      clear hg15 hw10
      obtain ⟨K5, hK5⟩ : ∃ K, macT l' T = K := ⟨_, rfl⟩
      have hKl5 : K5.length = 32 := by rw [← hK5]; rfl
      have NE := ne32 K5 K5 hKl5 hKl5
      rw [beq_self_eq_true] at NE
      have HTG := Lib.hid (show ∀ w', KeyW w' gK l' → Pts w' A1 qs → Calls Try.prog 68 #[.pointer (some ⟨gK, 0, none⟩), .slice A1 g c1] w' fun e w2 => e = .returned (.agg (b8a K5)) ∧ Below w'.heap.size w' w2 from fun w' h1 h2 => by
        have := ktag_any w' gK l' h1 (by rw [HLN.out]; omega) A1 c1 qs h2 (by rw [HG.out]; omega) (by rw [HT.out, HTL.out]; omega)
        rw [HG.out, HT.out, hK5] at this
        exact this)
      have HRT := Lib.hid (show ∀ w', Rd w' w'.heap.size 1 A0 k (by8 l') → Rd w' w'.heap.size 1 A2 TL (by8 T) → Calls Try.prog 50 #[.agg KT, .slice A0 k c0, .slice A2 TL c2] w' fun e w2 => e = .returned (.agg (b8a K5)) ∧ Below w'.heap.size w' w2 from fun w' h1 h2 => by
        have := reftag_any KT HKT.out w' A0 c0 l' (by unfold RB; rw [HLN.out]; exact h1) (by rw [HLN.out]; omega) A2 c2 T (by unfold RB; rw [HTL.out]; exact h2) (by rw [HTL.out]; omega)
        rw [HLN.out, HTL.out, hK5] at this
        exact this)
      have HKD := Lib.hid (show ∀ w', KeyW w' gK l' → Pts w' A1 qs → Calls Try.prog 69 #[.pointer (some ⟨gK, 0, none⟩), .string S', .slice A1 g c1] w' fun e w2 => ∃ gk', e = .returned (.pointer (some ⟨gk', 0, none⟩)) ∧ KeyW w2 gk' K3 ∧ Below w'.heap.size w' w2 from fun w' h1 h2 => by
        have := kderive_any w' gK l' h1 (by rw [HLN.out]; omega) S' (by rw [HSS.out]; omega) A1 c1 qs h2 (by rw [HG.out]; omega) (fun p hp => Nat.le_trans (HQ6.out p hp) (by decide))
        rw [HG.out, HK3.out] at this
        exact this)
      have HKB3 := Lib.hid (show ∀ w' gk', KeyW w' gk' K3 → Calls Try.prog 70 #[.pointer (some ⟨gk', 0, none⟩)] w' fun e w2 => ∃ A' c', e = .returned (.slice A' 32 c') ∧ Fresh w' w2 5 1 (.slice A' 32 c') 32 (by8 K3) from fun w' gk' h => by
        have := kbytes_any w' gk' K3 h (by rw [KL3.out]; decide)
        rw [KL3.out] at this
        refine this.mono ?_
        rintro e w2 ⟨v, rfl, hf⟩
        obtain ⟨A', c', rfl, _⟩ := own_form hf.own
        exact ⟨A', c', rfl, hf⟩)
      have HKB := Lib.hid (show ∀ w', KeyW w' gK l' → Calls Try.prog 70 #[.pointer (some ⟨gK, 0, none⟩)] w' fun e w2 => ∃ A' c', e = .returned (.slice A' k c') ∧ Fresh w' w2 5 1 (.slice A' k c') k (by8 l') from fun w' h => by
        have := kbytes_any w' gK l' h (by rw [HLN.out]; omega)
        rw [HLN.out] at this
        refine this.mono ?_
        rintro e w2 ⟨v, rfl, hf⟩
        obtain ⟨A', c', rfl, _⟩ := own_form hf.own
        exact ⟨A', c', rfl, hf⟩)
      have HSM := Lib.hid (show ∀ w' (X : List UInt8) n A A' c c', X.length = n → n ≤ 1000 → Rd w' w'.heap.size 1 A n (by8 X) → Rd w' w'.heap.size 1 A' n (by8 X) → Calls Try.prog 25 #[.slice A n c, .slice A' n c'] w' fun e w2 => e = .returned (.bool true) ∧ Below w'.heap.size w' w2 from fun w' X n A A' c c' hn hn2 h1 h2 => by
        subst hn
        exact same_yes A A' c c' X w' h1 h2 (by unfold maxLen; omega))
      have HSK3 := Lib.hid (HSM.out · K3 32 · · · · KL3.out (by decide))
      have HSK8 := Lib.hid (HSM.out · K8 8 · · · · KL8.out (by decide))
      have HSKK := Lib.hid (HSM.out · l' k · · · · HLN.out (by omega))
      have HZE := Lib.hid (show ∀ w', KeyW w' gK l' → Calls Try.prog 71 #[.pointer (some ⟨gK, 0, none⟩)] w' fun e w2 => e = .returned (.bool Z) ∧ Below w'.heap.size w' w2 from fun w' h => by
        have := zero_any w' gK l' h (by rw [HLN.out]; omega)
        rw [HLN.out, ← HZA.out] at this
        exact this)
      have HZZ : (Z != Z) = false := bne_self_eq_false' (a := Z)
      have SR3 := Lib.hid (show ∀ w' ow, Mst W w' ((g15, 108, b8a K8) :: (g14, 54, b8a K4) :: (g13, 54, b8a K3) :: BL) ow → Rd w' w'.heap.size 1 (some ⟨g13, 0, none⟩) 32 (by8 K3) from fun w' ow h => h.src (Src.arr (t := 54) (by simp) KL3.out))
      have SR8 := Lib.hid (show ∀ w' ow, Mst W w' ((g15, 108, b8a K8) :: (g14, 54, b8a K4) :: (g13, 54, b8a K3) :: BL) ow → Rd w' w'.heap.size 1 (some ⟨g15, 0, none⟩) 8 (by8 K8) from fun w' ow h => h.src (Src.arr (t := 108) (by simp) KL8.out))
      have SR4 := Lib.hid (show ∀ w' ow, Mst W w' ((g15, 108, b8a K8) :: (g14, 54, b8a K4) :: (g13, 54, b8a K3) :: BL) ow → Rd w' w'.heap.size 1 (some ⟨g14, 0, none⟩) 8 (by8 K8) from fun w' ow h => by
        have := (show RB w' w'.heap.size (some ⟨g14, 0, none⟩) K4 from by unfold RB; rw [KL4.out]; exact h.src (Src.arr (t := 54) (by simp) KL4.out)).cut 8
        rw [HK8.out] at this
        unfold RB at this
        rwa [KL8.out] at this)
      have hu : ∃ d, Try.prog.underlying 60 = some d ∧ d.isRow = true := ⟨_, Try.underlying60, rfl⟩
      obtain ⟨d', hu, hd'⟩ := hu
      have hki := HKT.out.infL
      have Mq := Lib.hid (show Mst W w10.drew ((g15, 108, b8a K8) :: (g14, 54, b8a K4) :: (g13, 54, b8a K3) :: BL) OW from Mq.out.drew)
      have k0 := T0.out _ [_, _, _] [] Mq.out
      have U0c := Lib.hid (fun w' (h : Mst W w' ((g15, 108, b8a K8) :: (g14, 54, b8a K4) :: (g13, 54, b8a K3) :: BL) OW) => U0.out w' [_, _, _] [] h)
      have U1c := Lib.hid (fun w' (h : Mst W w' ((g15, 108, b8a K8) :: (g14, 54, b8a K4) :: (g13, 54, b8a K3) :: BL) OW) => U1.out w' [_, _, _] [] h)
      have U2c := Lib.hid (fun w' (h : Mst W w' ((g15, 108, b8a K8) :: (g14, 54, b8a K4) :: (g13, 54, b8a K3) :: BL) OW) => U2.out w' [_, _, _] [] h)
      have UKc := Lib.hid (fun w' (h : Mst W w' ((g15, 108, b8a K8) :: (g14, 54, b8a K4) :: (g13, 54, b8a K3) :: BL) OW) => UK.out w' [_, _, _] [] h)
      clear hK5 hKl5 HSM
      refine wp_region_held_drew (S := fun w' => w'.rangeAt g9 0 KT.toList) (by kernel_rfl) ?_ (fun hHeld => ?_)
      · exact k0
      generalize World.drew w10 = w11 at Mq hHeld ⊢
      refine wpAnyH_take (i := 0) (v := ?_) rfl (by kernel_rfl) (by kernel_rfl) (by kernel_rfl) (fun _ _ _ h => h) (Or.inl ⟨by rfl, ?_⟩) (by assumption) ?_
      rotate_left
      · intro w hSw; (try dsimp only at hSw); go_split_ands; go_simp; with_reducible rfl
      change wpAnyH _ _ _ _ _ _ _ (Act.put _ (some 62) _) _
      simp only [Act.put, List.setIfInBounds_toArray, List.set_cons_zero, List.set_cons_succ, Array.toArray_toList]
      refine wpAnyH_take (i := 1) (v := ?_) rfl (by kernel_rfl) (by kernel_rfl) (by kernel_rfl) (fun _ _ _ h => h) (Or.inl ⟨by rfl, ?_⟩) (by assumption) ?_
      rotate_left
      · intro w hSw; (try dsimp only at hSw); go_split_ands; go_simp; with_reducible rfl
      change wpAnyH _ _ _ _ _ _ _ (Act.put _ (some 63) _) _
      simp only [Act.put, List.setIfInBounds_toArray, List.set_cons_zero, List.set_cons_succ, Array.toArray_toList]
      refine wpAnyH_take (i := 3) rfl (by kernel_rfl) (by kernel_rfl) (by kernel_rfl) (fun _ _ _ h => h) (yieldsIf_load_mid (by rfl) _ _ rfl _ _ rfl _ _ (fun w hw => hw) hu hd' hki) (by assumption) ?_
      change wpAnyH _ _ _ _ _ _ _ (Act.put _ (some 65) _) _
      simp only [Act.put, List.setIfInBounds_toArray, List.set_cons_zero, List.set_cons_succ, Array.toArray_toList]
      refine wpAnyH_take (i := 4) (v := ?_) rfl (by kernel_rfl) (by kernel_rfl) (by kernel_rfl) (fun _ _ _ h => h) (Or.inl ⟨by rfl, ?_⟩) (by assumption) ?_
      rotate_left
      · intro w hSw; (try dsimp only at hSw); go_split_ands; go_simp; with_reducible rfl
      change wpAnyH _ _ _ _ _ _ _ (Act.put _ (some 66) _) _
      simp only [Act.put, List.setIfInBounds_toArray, List.set_cons_zero, List.set_cons_succ, Array.toArray_toList]
      refine wpAnyH_take (i := 5) (v := ?_) rfl (by kernel_rfl) (by kernel_rfl) (by kernel_rfl) (fun _ _ _ h => h) (Or.inl ⟨by rfl, ?_⟩) (by assumption) ?_
      rotate_left
      · intro w hSw; (try dsimp only at hSw); go_split_ands; go_simp; with_reducible rfl
      change wpAnyH _ _ _ _ _ _ _ (Act.put _ (some 67) _) _
      simp only [Act.put, List.setIfInBounds_toArray, List.set_cons_zero, List.set_cons_succ, Array.toArray_toList]
      refine wpAnyH_ready (rs := [2]) (by kernel_rfl) (by simp) ?_
      refine (AllReadyH.cons rfl (fun K hK => ?_) AllReadyH.nil)
      go_simp
      (with_reducible refine (HTG.out _ (UKc.out _ Mq.out) (U1c.out _ Mq.out)).mono ?_); rintro e wq ⟨rfl, hb⟩; have Mq := Lib.hid (Mq.out.below hb); clear hb
      go_wp2_with fail
      refine hK.out _ _ (by first | exact T0.out _ [_, _, _] [] Mq.out | exact T0.out _ [_, _, _] [_] Mq.out) (fun hHeld => ?_)
      clear hK K
      refine wpAnyH_ready (rs := [6]) (by kernel_rfl) (by simp) ?_
      refine (AllReadyH.cons rfl (fun K hK => ?_) AllReadyH.nil)
      go_simp
      (with_reducible refine (HRT.out _ (U0c.out _ Mq.out) (U2c.out _ Mq.out)).mono ?_); rintro e wq ⟨rfl, hb⟩; have Mq := Lib.hid (Mq.out.below hb); clear hb
      go_wp2_with fail
      refine hK.out _ _ (by first | exact T0.out _ [_, _, _] [] Mq.out | exact T0.out _ [_, _, _] [_] Mq.out) (fun hHeld => ?_)
      clear hK K
      refine wpAnyH_take (i := 7) (v := ?_) rfl (by kernel_rfl) (by kernel_rfl) (by kernel_rfl) (fun _ _ _ h => h) (Or.inl ⟨by rfl, ?_⟩) (by assumption) ?_
      rotate_left
      · intro w hSw; (try dsimp only at hSw); go_split_ands; go_simp; with_reducible rfl
      change wpAnyH _ _ _ _ _ _ _ (Act.put _ (some 69) _) _
      simp only [Act.put, List.setIfInBounds_toArray, List.set_cons_zero, List.set_cons_succ, Array.toArray_toList]
      refine wpAnyH_take (i := 8) (v := ?_) rfl (by kernel_rfl) (by kernel_rfl) (by kernel_rfl) (fun _ _ _ h => h) (Or.inl ⟨by rfl, ?_⟩) (by assumption) ?_
      rotate_left
      · intro w hSw; (try dsimp only at hSw); go_split_ands; go_simp; with_reducible rfl
      change wpAnyH _ _ _ _ _ _ _ (Act.put _ (some 70) _) _
      simp only [Act.put, List.setIfInBounds_toArray, List.set_cons_zero, List.set_cons_succ, Array.toArray_toList]
      refine wpAnyH_take (i := 9) (v := ?_) rfl (by kernel_rfl) (by kernel_rfl) (by kernel_rfl) (fun _ _ _ h => h) (Or.inl ⟨by rfl, ?_⟩) (by assumption) ?_
      rotate_left
      · intro w hSw; (try dsimp only at hSw); go_split_ands; go_simp; with_reducible rfl
      change wpAnyH _ _ _ _ _ _ _ (Act.put _ (some 71) _) _
      simp only [Act.put, List.setIfInBounds_toArray, List.set_cons_zero, List.set_cons_succ, Array.toArray_toList]
      refine wpAnyH_take (i := 10) (v := ?_) rfl (by kernel_rfl) (by kernel_rfl) (by kernel_rfl) (fun _ _ _ h => h) (Or.inl ⟨by rfl, ?_⟩) (by assumption) ?_
      rotate_left
      · intro w hSw; (try dsimp only at hSw); go_split_ands; go_simp; with_reducible rfl
      change wpAnyH _ _ _ _ _ _ _ (Act.put _ (some 72) _) _
      simp only [Act.put, List.setIfInBounds_toArray, List.set_cons_zero, List.set_cons_succ, Array.toArray_toList]
      refine wpAnyH_take (i := 11) (v := ?_) rfl (by kernel_rfl) (by kernel_rfl) (by kernel_rfl) (fun _ _ _ h => h) (Or.inl ⟨by rfl, ?_⟩) (by assumption) ?_
      rotate_left
      · intro w hSw; (try dsimp only at hSw); go_split_ands; go_simp; with_reducible rfl
      change wpAnyH _ _ _ _ _ _ _ (Act.put _ (some 73) _) _
      simp only [Act.put, List.setIfInBounds_toArray, List.set_cons_zero, List.set_cons_succ, Array.toArray_toList]
      refine wpAnyH_take (i := 14) (v := ?_) rfl (by kernel_rfl) (by kernel_rfl) (by kernel_rfl) (fun _ _ _ h => h) (Or.inl ⟨by rfl, ?_⟩) (by assumption) ?_
      rotate_left
      · intro w hSw; (try dsimp only at hSw); go_split_ands; go_simp; with_reducible rfl
      change wpAnyH _ _ _ _ _ _ _ (Act.put _ (some 76) _) _
      simp only [Act.put, List.setIfInBounds_toArray, List.set_cons_zero, List.set_cons_succ, Array.toArray_toList]
      refine wpAnyH_ready (rs := [12]) (by kernel_rfl) (by simp) ?_
      refine (AllReadyH.cons rfl (fun K hK => ?_) AllReadyH.nil)
      go_simp
      (with_reducible refine (HKD.out _ (UKc.out _ Mq.out) (U1c.out _ Mq.out)).mono ?_); rintro e wq ⟨gk', rfl, hkw, hb⟩; have Mq := Lib.hid (Mq.out.below hb); have HKW := Lib.hid hkw; clear hb hkw
      go_wp2_with fail
      refine hK.out _ _ (by first | exact T0.out _ [_, _, _] [] Mq.out | exact T0.out _ [_, _, _] [_] Mq.out) (fun hHeld => ?_)
      clear hK K
      refine wpAnyH_ready (rs := [13]) (by kernel_rfl) (by simp) ?_
      refine (AllReadyH.cons rfl (fun K hK => ?_) AllReadyH.nil)
      go_simp
      (with_reducible refine (HKB3.out _ _ HKW.out).mono ?_); rintro e wq ⟨A6, c6, rfl, hf⟩; have Mq := Lib.hid (Mq.out.addr hf); clear hf
      go_wp2_with fail
      refine hK.out _ _ (by first | exact T0.out _ [_, _, _] [] Mq.out | exact T0.out _ [_, _, _] [_] Mq.out) (fun hHeld => ?_)
      clear hK K
      refine wpAnyH_ready (rs := [15]) (by kernel_rfl) (by simp) ?_
      refine (AllReadyH.cons rfl (fun K hK => ?_) AllReadyH.nil)
      go_simp
      (with_reducible refine (HSK3.out _ _ _ _ _ (Mq.out.src (Mq.out.rowSrc (List.mem_cons_self ..))) (SR3.out _ _ Mq.out)).mono ?_); rintro e wq ⟨rfl, hb⟩; have Mq := Lib.hid (Mq.out.below hb).dropr; clear hb
      go_wp2_with fail
      refine hK.out _ _ (by first | exact T0.out _ [_, _, _] [] Mq.out | exact T0.out _ [_, _, _] [_] Mq.out) (fun hHeld => ?_)
      clear hK K
      refine wpAnyH_take (i := 16) (v := ?_) rfl (by kernel_rfl) (by kernel_rfl) (by kernel_rfl) (fun _ _ _ h => h) (Or.inl ⟨by rfl, ?_⟩) (by assumption) ?_
      rotate_left
      · intro w hSw; (try dsimp only at hSw); go_split_ands; go_simp; with_reducible rfl
      change wpAnyH _ _ _ _ _ _ _ (Act.put _ (some 78) _) _
      simp only [Act.put, List.setIfInBounds_toArray, List.set_cons_zero, List.set_cons_succ, Array.toArray_toList]
      refine wpAnyH_take (i := 17) (v := ?_) rfl (by kernel_rfl) (by kernel_rfl) (by kernel_rfl) (fun _ _ _ h => h) (Or.inl ⟨by rfl, ?_⟩) (by assumption) ?_
      rotate_left
      · intro w hSw; (try dsimp only at hSw); go_split_ands; go_simp; with_reducible rfl
      change wpAnyH _ _ _ _ _ _ _ (Act.put _ (some 79) _) _
      simp only [Act.put, List.setIfInBounds_toArray, List.set_cons_zero, List.set_cons_succ, Array.toArray_toList]
      refine wpAnyH_take (i := 18) (v := ?_) rfl (by kernel_rfl) (by kernel_rfl) (by kernel_rfl) (fun _ _ _ h => h) (Or.inl ⟨by rfl, ?_⟩) (by assumption) ?_
      rotate_left
      · intro w hSw; (try dsimp only at hSw); go_split_ands; go_simp; with_reducible rfl
      change wpAnyH _ _ _ _ _ _ _ (Act.put _ (some 80) _) _
      simp only [Act.put, List.setIfInBounds_toArray, List.set_cons_zero, List.set_cons_succ, Array.toArray_toList]
      refine wpAnyH_take (i := 19) (v := ?_) rfl (by kernel_rfl) (by kernel_rfl) (by kernel_rfl) (fun _ _ _ h => h) (Or.inl ⟨by rfl, ?_⟩) (by assumption) ?_
      rotate_left
      · intro w hSw; (try dsimp only at hSw); go_split_ands; go_simp; with_reducible rfl
      change wpAnyH _ _ _ _ _ _ _ (Act.put _ (some 81) _) _
      simp only [Act.put, List.setIfInBounds_toArray, List.set_cons_zero, List.set_cons_succ, Array.toArray_toList]
      refine wpAnyH_take (i := 20) (v := ?_) rfl (by kernel_rfl) (by kernel_rfl) (by kernel_rfl) (fun _ _ _ h => h) (Or.inl ⟨by rfl, ?_⟩) (by assumption) ?_
      rotate_left
      · intro w hSw; (try dsimp only at hSw); go_split_ands; go_simp; with_reducible rfl
      change wpAnyH _ _ _ _ _ _ _ (Act.put _ (some 82) _) _
      simp only [Act.put, List.setIfInBounds_toArray, List.set_cons_zero, List.set_cons_succ, Array.toArray_toList]
      refine wpAnyH_ready (rs := [21]) (by kernel_rfl) (by simp) ?_
      refine (AllReadyH.cons rfl (fun K hK => ?_) AllReadyH.nil)
      go_simp
      (with_reducible refine (HSK8.out _ _ _ _ _ (SR8.out _ _ Mq.out) (SR4.out _ _ Mq.out)).mono ?_); rintro e wq ⟨rfl, hb⟩; have Mq := Lib.hid (Mq.out.below hb); clear hb
      go_wp2_with fail
      refine hK.out _ _ (by first | exact T0.out _ [_, _, _] [] Mq.out | exact T0.out _ [_, _, _] [_] Mq.out) (fun hHeld => ?_)
      clear hK K
      refine wpAnyH_take (i := 22) (v := ?_) rfl (by kernel_rfl) (by kernel_rfl) (by kernel_rfl) (fun _ _ _ h => h) (Or.inl ⟨by rfl, ?_⟩) (by assumption) ?_
      rotate_left
      · intro w hSw; (try dsimp only at hSw); go_split_ands; go_simp; with_reducible rfl
      change wpAnyH _ _ _ _ _ _ _ (Act.put _ (some 84) _) _
      simp only [Act.put, List.setIfInBounds_toArray, List.set_cons_zero, List.set_cons_succ, Array.toArray_toList]
      refine wpAnyH_take (i := 23) (v := ?_) rfl (by kernel_rfl) (by kernel_rfl) (by kernel_rfl) (fun _ _ _ h => h) (Or.inl ⟨by rfl, ?_⟩) (by assumption) ?_
      rotate_left
      · intro w hSw; (try dsimp only at hSw); go_split_ands; go_simp; with_reducible rfl
      change wpAnyH _ _ _ _ _ _ _ (Act.put _ (some 85) _) _
      simp only [Act.put, List.setIfInBounds_toArray, List.set_cons_zero, List.set_cons_succ, Array.toArray_toList]
      refine wpAnyH_take (i := 24) (v := ?_) rfl (by kernel_rfl) (by kernel_rfl) (by kernel_rfl) (fun _ _ _ h => h) (Or.inl ⟨by rfl, ?_⟩) (by assumption) ?_
      rotate_left
      · intro w hSw; (try dsimp only at hSw); go_split_ands; go_simp; with_reducible rfl
      change wpAnyH _ _ _ _ _ _ _ (Act.put _ (some 86) _) _
      simp only [Act.put, List.setIfInBounds_toArray, List.set_cons_zero, List.set_cons_succ, Array.toArray_toList]
      refine wpAnyH_take (i := 25) (v := ?_) rfl (by kernel_rfl) (by kernel_rfl) (by kernel_rfl) (fun _ _ _ h => h) (Or.inl ⟨by rfl, ?_⟩) (by assumption) ?_
      rotate_left
      · intro w hSw; (try dsimp only at hSw); go_split_ands; go_simp; with_reducible rfl
      change wpAnyH _ _ _ _ _ _ _ (Act.put _ (some 87) _) _
      simp only [Act.put, List.setIfInBounds_toArray, List.set_cons_zero, List.set_cons_succ, Array.toArray_toList]
      refine wpAnyH_take (i := 27) (v := ?_) rfl (by kernel_rfl) (by kernel_rfl) (by kernel_rfl) (fun _ _ _ h => h) (Or.inl ⟨by rfl, ?_⟩) (by assumption) ?_
      rotate_left
      · intro w hSw; (try dsimp only at hSw); go_split_ands; go_simp; with_reducible rfl
      change wpAnyH _ _ _ _ _ _ _ (Act.put _ (some 89) _) _
      simp only [Act.put, List.setIfInBounds_toArray, List.set_cons_zero, List.set_cons_succ, Array.toArray_toList]
      refine wpAnyH_ready (rs := [26]) (by kernel_rfl) (by simp) ?_
      refine (AllReadyH.cons rfl (fun K hK => ?_) AllReadyH.nil)
      go_simp
      (with_reducible refine (HZE.out _ (UKc.out _ Mq.out)).mono ?_); rintro e wq ⟨rfl, hb⟩; have Mq := Lib.hid (Mq.out.below hb); clear hb
      go_wp2_with fail
      refine hK.out _ _ (by first | exact T0.out _ [_, _, _] [] Mq.out | exact T0.out _ [_, _, _] [_] Mq.out) (fun hHeld => ?_)
      clear hK K
      refine wpAnyH_take (i := 28) (v := ?_) rfl (by kernel_rfl) (by kernel_rfl) (by kernel_rfl) (fun _ _ _ h => h) (Or.inl ⟨by rfl, ?_⟩) (by assumption) ?_
      rotate_left
      · intro w hSw; (try dsimp only at hSw); go_split_ands; go_simp; with_reducible rfl
      change wpAnyH _ _ _ _ _ _ _ (Act.put _ (some 90) _) _
      simp only [Act.put, List.setIfInBounds_toArray, List.set_cons_zero, List.set_cons_succ, Array.toArray_toList]
      refine wpAnyH_take (i := 29) (v := ?_) rfl (by kernel_rfl) (by kernel_rfl) (by kernel_rfl) (fun _ _ _ h => h) (Or.inl ⟨by rfl, ?_⟩) (by assumption) ?_
      rotate_left
      · intro w hSw; (try dsimp only at hSw); go_split_ands; go_simp; with_reducible rfl
      change wpAnyH _ _ _ _ _ _ _ (Act.put _ (some 91) _) _
      simp only [Act.put, List.setIfInBounds_toArray, List.set_cons_zero, List.set_cons_succ, Array.toArray_toList]
      refine wpAnyH_take (i := 30) (v := ?_) rfl (by kernel_rfl) (by kernel_rfl) (by kernel_rfl) (fun _ _ _ h => h) (Or.inl ⟨by rfl, ?_⟩) (by assumption) ?_
      rotate_left
      · intro w hSw; (try dsimp only at hSw); go_split_ands; go_simp; with_reducible rfl
      change wpAnyH _ _ _ _ _ _ _ (Act.put _ (some 92) _) _
      simp only [Act.put, List.setIfInBounds_toArray, List.set_cons_zero, List.set_cons_succ, Array.toArray_toList]
      refine wpAnyH_take (i := 31) (v := ?_) rfl (by kernel_rfl) (by kernel_rfl) (by kernel_rfl) (fun _ _ _ h => h) (Or.inl ⟨by rfl, ?_⟩) (by assumption) ?_
      rotate_left
      · intro w hSw; (try dsimp only at hSw); go_split_ands; go_simp; with_reducible rfl
      change wpAnyH _ _ _ _ _ _ _ (Act.put _ (some 93) _) _
      simp only [Act.put, List.setIfInBounds_toArray, List.set_cons_zero, List.set_cons_succ, Array.toArray_toList]
      refine wpAnyH_take (i := 33) (v := ?_) rfl (by kernel_rfl) (by kernel_rfl) (by kernel_rfl) (fun _ _ _ h => h) (Or.inl ⟨by rfl, ?_⟩) (by assumption) ?_
      rotate_left
      · intro w hSw; (try dsimp only at hSw); go_split_ands; go_simp; with_reducible rfl
      change wpAnyH _ _ _ _ _ _ _ (Act.put _ (some 95) _) _
      simp only [Act.put, List.setIfInBounds_toArray, List.set_cons_zero, List.set_cons_succ, Array.toArray_toList]
      refine wpAnyH_ready (rs := [32]) (by kernel_rfl) (by simp) ?_
      refine (AllReadyH.cons rfl (fun K hK => ?_) AllReadyH.nil)
      go_simp
      (with_reducible refine (HKB.out _ (UKc.out _ Mq.out)).mono ?_); rintro e wq ⟨A7, c7, rfl, hf⟩; have Mq := Lib.hid (Mq.out.addr hf); clear hf
      go_wp2_with fail
      refine hK.out _ _ (by first | exact T0.out _ [_, _, _] [] Mq.out | exact T0.out _ [_, _, _] [_] Mq.out) (fun hHeld => ?_)
      clear hK K
      refine wpAnyH_ready (rs := [34]) (by kernel_rfl) (by simp) ?_
      refine (AllReadyH.cons rfl (fun K hK => ?_) AllReadyH.nil)
      go_simp
      (with_reducible refine (HSKK.out _ _ _ _ _ (Mq.out.src (Mq.out.rowSrc (List.mem_cons_self ..))) (U0c.out _ Mq.out.dropr)).mono ?_); rintro e wq ⟨rfl, hb⟩; have Mq := Lib.hid (Mq.out.below hb).dropr; clear hb
      go_wp2_with fail
      refine hK.out _ _ (by first | exact T0.out _ [_, _, _] [] Mq.out | exact T0.out _ [_, _, _] [_] Mq.out) (fun hHeld => ?_)
      clear hK K
      refine wpAnyH_take (i := 35) (v := ?_) rfl (by kernel_rfl) (by kernel_rfl) (by kernel_rfl) (fun _ _ _ h => h) (Or.inl ⟨by rfl, ?_⟩) (by assumption) ?_
      rotate_left
      · intro w hSw; (try dsimp only at hSw); go_split_ands; go_simp; with_reducible rfl
      change wpAnyH _ _ _ _ _ _ _ (Act.put _ (some 97) _) _
      simp only [Act.put, List.setIfInBounds_toArray, List.set_cons_zero, List.set_cons_succ, Array.toArray_toList]
      refine wpAnyH_take (i := 36) (v := ?_) rfl (by kernel_rfl) (by kernel_rfl) (by kernel_rfl) (fun _ _ _ h => h) (Or.inl ⟨by rfl, ?_⟩) (by assumption) ?_
      rotate_left
      · intro w hSw; (try dsimp only at hSw); go_split_ands; go_simp; with_reducible rfl
      change wpAnyH _ _ _ _ _ _ _ (Act.put _ (some 98) _) _
      simp only [Act.put, List.setIfInBounds_toArray, List.set_cons_zero, List.set_cons_succ, Array.toArray_toList]
      refine wpAnyH_done (by kernel_rfl) ?_ _
      have M3 := Lib.hid (show Mst W _ BL OW from Mq.out.sub (.cons _ (.cons _ (.cons _ (.refl _)))) (.refl _))
      clear HTG HRT HKD HKB3 HSK3 HSK8 HZE SR3 SR8 SR4 hHeld k0 NE HZZ
      go_upto_if 101 with fail
      go_cut [] (fun wr => Mst W wr [(g9, 60, KT)] [⟨26, 1, .slice A1 g c1, g, qs.map Pt.v⟩, ⟨5, 1, .slice A2 TL c2, TL, by8 T⟩])
      case first =>
        by_cases hk0 : 0 < k
        · have i0 : (0 : Int) < k := by omega
          obtain ⟨b0, hb0⟩ : ∃ b, l'[0]? = some b := ⟨_, List.getElem?_eq_getElem (by rw [HLN.out]; exact hk0)⟩
          have m3 := M3.out
          rw [← HBL.out, ← HOW.out] at m3
          have hrow := m3.row [_, _, _]
          obtain ⟨A0', c0', e0, -, -, -, hA0⟩ := own_form hrow
          injection e0 with e0 _ e1
          subst e0 e1
          obtain ⟨gA, rfl, -, -⟩ := hA0 hk0
          have q0 := hrow.cellAt 0 (by omega)
          rw [by8_get hb0] at q0
          have f0 := hrow.frozenAt 0
          have HB0 := Lib.hid hb0
          have M4 := Lib.hid m3
          have hbb : ((b0.toNat : Int) != b0.toNat) = false := bne_self_eq_false' (a := (b0.toNat : Int))
          clear hrow m3 hb0
          go_wp2_with fail
          generalize hws : World.setCell _ _ _ = ws
          have M5 := Lib.hid ((M4.out.rset [_, _, _] 0 (.int .u8 (((b0.toNat : Int) + 1) % 256))).toW hws rfl)
          have hkw := M5.out.key (gk := gK) (t := 147) (c := ck) (n := k) (A := Ak) (kb := l') (by simp) HLN.out (M5.out.rowSrc (e := 5) (c := ck) (by simp))
          have HKW := Lib.hid (HKB.out _ hkw)
          clear hws hkw M4 q0 f0
          refine HKW.out.mono ?_
          rintro e w12 ⟨A7, c7, rfl, hf⟩
          have M6 := Lib.hid (M5.out.addr hf)
          obtain ⟨A7', c7', e0, -, -, -, hA7⟩ := own_form hf.own
          injection e0 with e0 _ e1
          subst e0 e1
          obtain ⟨g7, rfl, -, -⟩ := hA7 hk0
          have q1 := hf.own.cellAt 0 (by omega)
          rw [by8_get HB0.out] at q1
          clear hf hA7
          go_wp2_with fail
          go_meet
          exact M6.out.sub (.cons _ (.refl _)) (.cons _ (.cons _ (.cons_cons _ (.cons_cons _ (.cons _ (.refl _))))))
        · have i0 : ¬ (0 : Int) < k := by omega
          go_wp2_with fail
          go_meet
          have m3 := M3.out
          rw [← HBL.out, ← HOW.out] at m3
          exact m3.sub (.cons _ (.refl _)) (.cons _ (.cons_cons _ (.cons_cons _ (.cons _ (.refl _)))))
      case rest =>
        have M7 := Lib.hid hcut
        obtain ⟨K6, hK6⟩ : ∃ K, macT [] T = K := ⟨_, rfl⟩
        have hKl6 : K6.length = 32 := by rw [← hK6]; rfl
        have EQ := eq32 K6 K6 hKl6 hKl6
        rw [beq_self_eq_true] at EQ
        have EQ8 := fun w => eq8 w
        have S1' := Lib.hid (show SPts W [(g9, 60, KT)] [⟨26, 1, .slice A1 g c1, g, qs.map Pt.v⟩, ⟨5, 1, .slice A2 TL c2, TL, by8 T⟩] A1 qs from ⟨by rw [HG.out]; exact M7.out.rowSrc (List.mem_cons_self ..), fun p h => Src.old (HQ.out p h)⟩)
        have S2' := Lib.hid (show Src W [(g9, 60, KT)] [⟨26, 1, .slice A1 g c1, g, qs.map Pt.v⟩, ⟨5, 1, .slice A2 TL c2, TL, by8 T⟩] 1 A2 TL (by8 T) from M7.out.rowSrc (List.mem_cons_of_mem _ (List.mem_cons_self ..)))
        have HTN := Lib.hid (show ∀ w', Pts w' A1 qs → Calls Try.prog 68 #[.pointer none, .slice A1 g c1] w' fun e w2 => e = .returned (.agg (b8a K6)) ∧ Below w'.heap.size w' w2 from fun w' h2 => by
          have := ktag_nil w' A1 c1 qs h2 (by rw [HG.out]; omega) (by rw [HT.out, HTL.out]; omega)
          rw [HG.out, HT.out, hK6] at this
          exact this)
        have HRN := Lib.hid (show ∀ w', Rd w' w'.heap.size 1 A2 TL (by8 T) → Calls Try.prog 50 #[.agg KT, .slice none 0 0, .slice A2 TL c2] w' fun e w2 => e = .returned (.agg (b8a K6)) ∧ Below w'.heap.size w' w2 from fun w' h2 => by
          have := reftag_any KT HKT.out w' none 0 [] (Rd.nil_ _ _ _ _) (by simp) A2 c2 T (by unfold RB; rw [HTL.out]; exact h2) (by rw [HTL.out]; omega)
          rw [HTL.out, hK6] at this
          exact this)
        have hu : ∃ d, Try.prog.underlying 60 = some d ∧ d.isRow = true := ⟨_, Try.underlying60, rfl⟩
        obtain ⟨d', hu, hd'⟩ := hu
        have hki := HKT.out.infL
        have Mq := Lib.hid M7.out.drew
        have k0 := (Mq.out.blk []).rangeL
        clear hcut hK6 hKl6 T0 U0 U1 U2 UK U0c U1c U2c UKc HRD HRD4 HKB HSKK M3
        go_wp2_with fail
        refine wp_region_held_drew (S := fun w' => w'.rangeAt g9 0 KT.toList) (by kernel_rfl) ?_ (fun hHeld => ?_)
        · exact k0
        generalize World.drew _ = w21 at Mq hHeld ⊢
        refine wpAnyH_ready (rs := [0]) (by kernel_rfl) (by simp) ?_
        refine (AllReadyH.cons rfl (fun K hK => ?_) AllReadyH.nil)
        go_simp
        (with_reducible refine (known02 _).mono ?_); rintro e wq ⟨rfl, hb⟩; have Mq := Lib.hid (Mq.out.below hb); clear hb
        go_wp2_with fail
        refine hK.out _ _ (by exact (Mq.out.blk []).rangeL) (fun hHeld => ?_)
        clear hK K
        refine wpAnyH_take (i := 1) (v := ?_) rfl (by kernel_rfl) (by kernel_rfl) (by kernel_rfl) (fun _ _ _ h => h) (Or.inl ⟨by rfl, ?_⟩) (by assumption) ?_
        rotate_left
        · intro w hSw; (try dsimp only at hSw); go_split_ands; go_simp; with_reducible rfl
        change wpAnyH _ _ _ _ _ _ _ (Act.put _ (some 117) _) _
        simp only [Act.put, List.setIfInBounds_toArray, List.set_cons_zero, List.set_cons_succ, Array.toArray_toList]
        refine wpAnyH_take (i := 2) (v := ?_) rfl (by kernel_rfl) (by kernel_rfl) (by kernel_rfl) (fun _ _ _ h => h) (Or.inl ⟨by rfl, ?_⟩) (by assumption) ?_
        rotate_left
        · intro w hSw; (try dsimp only at hSw); go_split_ands; go_simp; with_reducible rfl
        change wpAnyH _ _ _ _ _ _ _ (Act.put _ (some 118) _) _
        simp only [Act.put, List.setIfInBounds_toArray, List.set_cons_zero, List.set_cons_succ, Array.toArray_toList]
        refine wpAnyH_take (i := 3) (v := ?_) rfl (by kernel_rfl) (by kernel_rfl) (by kernel_rfl) (fun _ _ _ h => h) (Or.inl ⟨by rfl, ?_⟩) (by assumption) ?_
        rotate_left
        · intro w hSw; (try dsimp only at hSw); go_split_ands; go_simp; with_reducible rfl
        change wpAnyH _ _ _ _ _ _ _ (Act.put _ (some 119) _) _
        simp only [Act.put, List.setIfInBounds_toArray, List.set_cons_zero, List.set_cons_succ, Array.toArray_toList]
        refine wpAnyH_take (i := 5) rfl (by kernel_rfl) (by kernel_rfl) (by kernel_rfl) (fun _ _ _ h => h) (yieldsIf_load_mid (by rfl) _ _ rfl _ _ rfl _ _ (fun w hw => hw) hu hd' hki) (by assumption) ?_
        change wpAnyH _ _ _ _ _ _ _ (Act.put _ (some 121) _) _
        simp only [Act.put, List.setIfInBounds_toArray, List.set_cons_zero, List.set_cons_succ, Array.toArray_toList]
        refine wpAnyH_take (i := 6) (v := ?_) rfl (by kernel_rfl) (by kernel_rfl) (by kernel_rfl) (fun _ _ _ h => h) (Or.inl ⟨by rfl, ?_⟩) (by assumption) ?_
        rotate_left
        · intro w hSw; (try dsimp only at hSw); go_split_ands; go_simp; with_reducible rfl
        change wpAnyH _ _ _ _ _ _ _ (Act.put _ (some 122) _) _
        simp only [Act.put, List.setIfInBounds_toArray, List.set_cons_zero, List.set_cons_succ, Array.toArray_toList]
        refine wpAnyH_ready (rs := [4]) (by kernel_rfl) (by simp) ?_
        refine (AllReadyH.cons rfl (fun K hK => ?_) AllReadyH.nil)
        go_simp
        (with_reducible refine (HTN.out _ (Mq.out.pts S1'.out)).mono ?_); rintro e wq ⟨rfl, hb⟩; have Mq := Lib.hid (Mq.out.below hb); clear hb
        go_wp2_with fail
        refine hK.out _ _ (by exact (Mq.out.blk []).rangeL) (fun hHeld => ?_)
        clear hK K
        refine wpAnyH_ready (rs := [7]) (by kernel_rfl) (by simp) ?_
        refine (AllReadyH.cons rfl (fun K hK => ?_) AllReadyH.nil)
        go_simp
        (with_reducible refine (HRN.out _ (Mq.out.src S2'.out)).mono ?_); rintro e wq ⟨rfl, hb⟩; have Mq := Lib.hid (Mq.out.below hb); clear hb
        go_wp2_with fail
        refine hK.out _ _ (by exact (Mq.out.blk []).rangeL) (fun hHeld => ?_)
        clear hK K
        refine wpAnyH_take (i := 8) (v := ?_) rfl (by kernel_rfl) (by kernel_rfl) (by kernel_rfl) (fun _ _ _ h => h) (Or.inl ⟨by rfl, ?_⟩) (by assumption) ?_
        rotate_left
        · intro w hSw; (try dsimp only at hSw); go_split_ands; go_simp; with_reducible rfl
        change wpAnyH _ _ _ _ _ _ _ (Act.put _ (some 124) _) _
        simp only [Act.put, List.setIfInBounds_toArray, List.set_cons_zero, List.set_cons_succ, Array.toArray_toList]
        refine wpAnyH_take (i := 9) (v := ?_) rfl (by kernel_rfl) (by kernel_rfl) (by kernel_rfl) (fun _ _ _ h => h) (Or.inl ⟨by rfl, ?_⟩) (by assumption) ?_
        rotate_left
        · intro w hSw; (try dsimp only at hSw); go_split_ands; go_simp; with_reducible rfl
        change wpAnyH _ _ _ _ _ _ _ (Act.put _ (some 125) _) _
        simp only [Act.put, List.setIfInBounds_toArray, List.set_cons_zero, List.set_cons_succ, Array.toArray_toList]
        refine wpAnyH_take (i := 10) (v := ?_) rfl (by kernel_rfl) (by kernel_rfl) (by kernel_rfl) (fun _ _ _ h => h) (Or.inl ⟨by rfl, ?_⟩) (by assumption) ?_
        rotate_left
        · intro w hSw; (try dsimp only at hSw); go_split_ands; go_simp; with_reducible rfl
        change wpAnyH _ _ _ _ _ _ _ (Act.put _ (some 126) _) _
        simp only [Act.put, List.setIfInBounds_toArray, List.set_cons_zero, List.set_cons_succ, Array.toArray_toList]
        refine wpAnyH_take (i := 11) (v := ?_) rfl (by kernel_rfl) (by kernel_rfl) (by kernel_rfl) (fun _ _ _ h => h) (Or.inl ⟨by rfl, ?_⟩) (by assumption) ?_
        rotate_left
        · intro w hSw; (try dsimp only at hSw); go_split_ands; go_simp; with_reducible rfl
        change wpAnyH _ _ _ _ _ _ _ (Act.put _ (some 127) _) _
        simp only [Act.put, List.setIfInBounds_toArray, List.set_cons_zero, List.set_cons_succ, Array.toArray_toList]
        refine wpAnyH_take (i := 12) (v := ?_) rfl (by kernel_rfl) (by kernel_rfl) (by kernel_rfl) (fun _ _ _ h => h) (Or.inl ⟨by rfl, ?_⟩) (by assumption) ?_
        rotate_left
        · intro w hSw; (try dsimp only at hSw); go_split_ands; go_simp; with_reducible rfl
        change wpAnyH _ _ _ _ _ _ _ (Act.put _ (some 128) _) _
        simp only [Act.put, List.setIfInBounds_toArray, List.set_cons_zero, List.set_cons_succ, Array.toArray_toList]
        refine wpAnyH_ready (rs := [13]) (by kernel_rfl) (by simp) ?_
        refine (AllReadyH.cons rfl (fun K hK => ?_) AllReadyH.nil)
        go_simp
        (with_reducible refine (kderive_nil _ _ _).mono ?_); rintro e wq ⟨rfl, rfl⟩
        go_wp2_with fail
        refine hK.out _ _ (by exact (Mq.out.blk []).rangeL) (fun hHeld => ?_)
        clear hK K
        refine wpAnyH_take (i := 14) (v := ?_) rfl (by kernel_rfl) (by kernel_rfl) (by kernel_rfl) (fun _ _ _ h => h) (Or.inl ⟨by rfl, ?_⟩) (by assumption) ?_
        rotate_left
        · intro w hSw; (try dsimp only at hSw); go_split_ands; go_simp; with_reducible rfl
        change wpAnyH _ _ _ _ _ _ _ (Act.put _ (some 130) _) _
        simp only [Act.put, List.setIfInBounds_toArray, List.set_cons_zero, List.set_cons_succ, Array.toArray_toList]
        refine wpAnyH_take (i := 15) (v := ?_) rfl (by kernel_rfl) (by kernel_rfl) (by kernel_rfl) (fun _ _ _ h => h) (Or.inl ⟨by rfl, ?_⟩) (by assumption) ?_
        rotate_left
        · intro w hSw; (try dsimp only at hSw); go_split_ands; go_simp; with_reducible rfl
        change wpAnyH _ _ _ _ _ _ _ (Act.put _ (some 131) _) _
        simp only [Act.put, List.setIfInBounds_toArray, List.set_cons_zero, List.set_cons_succ, Array.toArray_toList]
        refine wpAnyH_take (i := 16) (v := ?_) rfl (by kernel_rfl) (by kernel_rfl) (by kernel_rfl) (fun _ _ _ h => h) (Or.inl ⟨by rfl, ?_⟩) (by assumption) ?_
        rotate_left
        · intro w hSw; (try dsimp only at hSw); go_split_ands; go_simp; with_reducible rfl
        change wpAnyH _ _ _ _ _ _ _ (Act.put _ (some 132) _) _
        simp only [Act.put, List.setIfInBounds_toArray, List.set_cons_zero, List.set_cons_succ, Array.toArray_toList]
        refine wpAnyH_take (i := 17) (v := ?_) rfl (by kernel_rfl) (by kernel_rfl) (by kernel_rfl) (fun _ _ _ h => h) (Or.inl ⟨by rfl, ?_⟩) (by assumption) ?_
        rotate_left
        · intro w hSw; (try dsimp only at hSw); go_split_ands; go_simp; with_reducible rfl
        change wpAnyH _ _ _ _ _ _ _ (Act.put _ (some 133) _) _
        simp only [Act.put, List.setIfInBounds_toArray, List.set_cons_zero, List.set_cons_succ, Array.toArray_toList]
        refine wpAnyH_ready (rs := [18]) (by kernel_rfl) (by simp) ?_
        refine (AllReadyH.cons rfl (fun K hK => ?_) AllReadyH.nil)
        go_simp
        (with_reducible refine (kbytes_nil _).mono ?_); rintro e wq ⟨rfl, rfl⟩
        go_wp2_with fail
        refine hK.out _ _ (by exact (Mq.out.blk []).rangeL) (fun hHeld => ?_)
        clear hK K
        refine wpAnyH_take (i := 19) (v := ?_) rfl (by kernel_rfl) (by kernel_rfl) (by kernel_rfl) (fun _ _ _ h => h) (Or.inl ⟨by rfl, ?_⟩) (by assumption) ?_
        rotate_left
        · intro w hSw; (try dsimp only at hSw); go_split_ands; go_simp; with_reducible rfl
        change wpAnyH _ _ _ _ _ _ _ (Act.put _ (some 135) _) _
        simp only [Act.put, List.setIfInBounds_toArray, List.set_cons_zero, List.set_cons_succ, Array.toArray_toList]
        refine wpAnyH_take (i := 20) (v := ?_) rfl (by kernel_rfl) (by kernel_rfl) (by kernel_rfl) (fun _ _ _ h => h) (Or.inl ⟨by rfl, ?_⟩) (by assumption) ?_
        rotate_left
        · intro w hSw; (try dsimp only at hSw); go_split_ands; go_simp; with_reducible rfl
        change wpAnyH _ _ _ _ _ _ _ (Act.put _ (some 136) _) _
        simp only [Act.put, List.setIfInBounds_toArray, List.set_cons_zero, List.set_cons_succ, Array.toArray_toList]
        refine wpAnyH_take (i := 21) (v := ?_) rfl (by kernel_rfl) (by kernel_rfl) (by kernel_rfl) (fun _ _ _ h => h) (Or.inl ⟨by rfl, ?_⟩) (by assumption) ?_
        rotate_left
        · intro w hSw; (try dsimp only at hSw); go_split_ands; go_simp; with_reducible rfl
        change wpAnyH _ _ _ _ _ _ _ (Act.put _ (some 137) _) _
        simp only [Act.put, List.setIfInBounds_toArray, List.set_cons_zero, List.set_cons_succ, Array.toArray_toList]
        refine wpAnyH_take (i := 22) (v := ?_) rfl (by kernel_rfl) (by kernel_rfl) (by kernel_rfl) (fun _ _ _ h => h) (Or.inl ⟨by rfl, ?_⟩) (by assumption) ?_
        rotate_left
        · intro w hSw; (try dsimp only at hSw); go_split_ands; go_simp; with_reducible rfl
        change wpAnyH _ _ _ _ _ _ _ (Act.put _ (some 138) _) _
        simp only [Act.put, List.setIfInBounds_toArray, List.set_cons_zero, List.set_cons_succ, Array.toArray_toList]
        refine wpAnyH_take (i := 23) (v := ?_) rfl (by kernel_rfl) (by kernel_rfl) (by kernel_rfl) (fun _ _ _ h => h) (Or.inl ⟨by rfl, ?_⟩) (by assumption) ?_
        rotate_left
        · intro w hSw; (try dsimp only at hSw); go_split_ands; go_simp; with_reducible rfl
        change wpAnyH _ _ _ _ _ _ _ (Act.put _ (some 139) _) _
        simp only [Act.put, List.setIfInBounds_toArray, List.set_cons_zero, List.set_cons_succ, Array.toArray_toList]
        refine wpAnyH_take (i := 25) (v := ?_) rfl (by kernel_rfl) (by kernel_rfl) (by kernel_rfl) (fun _ _ _ h => h) (Or.inl ⟨by rfl, ?_⟩) (by assumption) ?_
        rotate_left
        · intro w hSw; (try dsimp only at hSw); go_split_ands; go_simp; with_reducible rfl
        change wpAnyH _ _ _ _ _ _ _ (Act.put _ (some 141) _) _
        simp only [Act.put, List.setIfInBounds_toArray, List.set_cons_zero, List.set_cons_succ, Array.toArray_toList]
        refine wpAnyH_ready (rs := [24]) (by kernel_rfl) (by simp) ?_
        refine (AllReadyH.cons rfl (fun K hK => ?_) AllReadyH.nil)
        go_simp
        (with_reducible refine (kprint_nil _).mono ?_); rintro e wq ⟨rfl, hb⟩; have Mq := Lib.hid (Mq.out.below hb); clear hb
        go_wp2_with fail
        refine hK.out _ _ (by exact (Mq.out.blk []).rangeL) (fun hHeld => ?_)
        clear hK K
        refine wpAnyH_take (i := 26) (v := ?_) rfl (by kernel_rfl) (by kernel_rfl) (by kernel_rfl) (fun _ _ _ h => h) (Or.inl ⟨by rfl, ?_⟩) (by assumption) ?_
        rotate_left
        · intro w hSw; (try dsimp only at hSw); go_split_ands; go_simp; with_reducible rfl
        change wpAnyH _ _ _ _ _ _ _ (Act.put _ (some 142) _) _
        simp only [Act.put, List.setIfInBounds_toArray, List.set_cons_zero, List.set_cons_succ, Array.toArray_toList]
        refine wpAnyH_take (i := 27) (v := ?_) rfl (by kernel_rfl) (by kernel_rfl) (by kernel_rfl) (fun _ _ _ h => h) (Or.inl ⟨by rfl, ?_⟩) (by assumption) ?_
        rotate_left
        · intro w hSw; (try dsimp only at hSw); go_split_ands; go_simp; with_reducible rfl
        change wpAnyH _ _ _ _ _ _ _ (Act.put _ (some 143) _) _
        simp only [Act.put, List.setIfInBounds_toArray, List.set_cons_zero, List.set_cons_succ, Array.toArray_toList]
        refine wpAnyH_take (i := 28) (v := ?_) rfl (by kernel_rfl) (by kernel_rfl) (by kernel_rfl) (fun _ _ _ h => h) (Or.inl ⟨by rfl, ?_⟩) (by assumption) ?_
        rotate_left
        · intro w hSw; (try dsimp only at hSw); go_split_ands; go_simp; with_reducible rfl
        change wpAnyH _ _ _ _ _ _ _ (Act.put _ (some 144) _) _
        simp only [Act.put, List.setIfInBounds_toArray, List.set_cons_zero, List.set_cons_succ, Array.toArray_toList]
        refine wpAnyH_take (i := 29) (v := ?_) rfl (by kernel_rfl) (by kernel_rfl) (by kernel_rfl) (fun _ _ _ h => h) (Or.inl ⟨by rfl, ?_⟩) (by assumption) ?_
        rotate_left
        · intro w hSw; (try dsimp only at hSw); go_split_ands; go_simp; with_reducible rfl
        change wpAnyH _ _ _ _ _ _ _ (Act.put _ (some 145) _) _
        simp only [Act.put, List.setIfInBounds_toArray, List.set_cons_zero, List.set_cons_succ, Array.toArray_toList]
        refine wpAnyH_ready (rs := [30]) (by kernel_rfl) (by simp) ?_
        refine (AllReadyH.cons rfl (fun K hK => ?_) AllReadyH.nil)
        go_simp
        (with_reducible refine (zero_nil _).mono ?_); rintro e wq ⟨rfl, hb⟩; have Mq := Lib.hid (Mq.out.below hb); clear hb
        go_wp2_with fail
        refine hK.out _ _ (by exact (Mq.out.blk []).rangeL) (fun hHeld => ?_)
        clear hK K
        refine wpAnyH_take (i := 31) (v := ?_) rfl (by kernel_rfl) (by kernel_rfl) (by kernel_rfl) (fun _ _ _ h => h) (Or.inl ⟨by rfl, ?_⟩) (by assumption) ?_
        rotate_left
        · intro w hSw; (try dsimp only at hSw); go_split_ands; go_simp; with_reducible rfl
        change wpAnyH _ _ _ _ _ _ _ (Act.put _ (some 147) _) _
        simp only [Act.put, List.setIfInBounds_toArray, List.set_cons_zero, List.set_cons_succ, Array.toArray_toList]
        refine wpAnyH_take (i := 32) (v := ?_) rfl (by kernel_rfl) (by kernel_rfl) (by kernel_rfl) (fun _ _ _ h => h) (Or.inl ⟨by rfl, ?_⟩) (by assumption) ?_
        rotate_left
        · intro w hSw; (try dsimp only at hSw); go_split_ands; go_simp; with_reducible rfl
        change wpAnyH _ _ _ _ _ _ _ (Act.put _ (some 6) _) _
        simp only [Act.put, List.setIfInBounds_toArray, List.set_cons_zero, List.set_cons_succ, Array.toArray_toList]
        refine wpAnyH_done (by kernel_rfl) ?_ _
        go_wp2
        go_ret
        exact ⟨rfl, Mq.out.bel⟩
theorem contract_macKeys (W : World) (v0 v1 v2 : Value) (a0 : ∃ r : Rw, v0 = r.v ∧ r.ok .u8 W) (a1 : ∃ s : ByteArray, v1 = .string s ∧ s.size ≤ maxLen) (a2 : ∃ A c, ∃ rows : List Rw, v2 = .slice A rows.length c ∧ rows.length ≤ c ∧ c ≤ maxLen ∧ Rd W W.heap.size 1 A rows.length (rows.map Rw.v) ∧ ∀ x ∈ rows, x.ok .u8 W) :
    Calls Try.prog 14 #[v0, v1, v2] W fun e W' => e = .returned (.bool true) ∧ Below W.heap.size W W' := by
  obtain ⟨r, rfl, hr⟩ := a0
  obtain ⟨s, rfl, hs⟩ := a1
  obtain ⟨A, c, rows, rfl, h1, h2, h3, h4⟩ := a2
  obtain ⟨ps, e1, e2, e3⟩ := rows_pt rows h4
  rw [← e1, ← e2] at h3
  rw [← e2] at h1 ⊢
  obtain ⟨l, e, g1, g2, g3⟩ := rw_pt hr
  rw [e]
  exact macKeys_main W r.A A r.c c l s ps g1 ⟨g2, g3⟩ hs h3 e3 (by unfold maxLen at h2; omega)
end Go.Proofs.Ythnaobolmgcclaa
