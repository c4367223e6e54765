/-
  vigillaw10.CookieBakes returns true, whatever it is called with. Conditions: none but that the slices can be read.
-/
import Derived.Test.YtiakgohipnbdbaaCkB1
import Derived.Test.YtiakgohipnbdbaaMod
namespace Go.Proofs.Ytiakgohipnbdbaa
set_option linter.unusedVariables false
set_option linter.unusedSimpArgs false
open Go.RowKit

theorem okCk_nat2 {a t : Int} (h : okCk a t = true) : ∃ a' t' : Nat, a = (a' : Int) ∧ t = (t' : Int) ∧ a' < 65536 ∧ t' ≤ 1073741824 := by
  simp only [okCk, decide_eq_true_eq] at h
  exact ⟨a.toNat, t.toNat, by omega, by omega, by omega, by omega⟩
set_option maxRecDepth 100000 in
set_option maxHeartbeats 3200000 in
theorem cookieBakes_yes (W : World) (A C : Option Addr) (c f : Nat) (l : List UInt8) (ps : List Pt) (hr : RB W W.heap.size A l) (hc : l.length ≤ c ∧ c ≤ 9223372036854775807) (a t lt : Int) (hlt : in64 lt)
    (hp : Rd W W.heap.size 1 C ps.length (ps.map Pt.v)) (hpc : ∀ p ∈ ps, RB W W.heap.size p.A p.l ∧ p.l.length ≤ p.c ∧ p.c ≤ 9223372036854775807) (hpn : ps.length ≤ 9223372036854775807) (hok : okCk a t = true) :
    Calls Try.prog 4 #[.slice A l.length c, .int .i64 a, .int .i64 t, .int .i64 lt, .slice C ps.length f] W fun e W' => e = .returned (.bool true) ∧ Below W.heap.size W W' := by
  have HBK := Lib.hid (baker_any W A c l hr hc)
  obtain ⟨N, hN⟩ : ∃ N, l.length = N := ⟨_, rfl⟩
  have hkl := keyL_len l
  obtain ⟨kb, hkb⟩ : ∃ k, keyL l = k := ⟨_, rfl⟩
  rw [hkb] at HBK hkl
  obtain ⟨KN, hKN⟩ : ∃ N, kb.length = N := ⟨_, rfl⟩
  rw [hKN] at HBK hkl
  have hk70 : KN ≤ 70 := by omega
  have HKN := Lib.hid hKN
  rw [hN] at HBK hc ⊢
  have HF := Lib.hid (show ∀ w', Below W.heap.size W w' → Calls Try.prog 27 #[.slice C ps.length f] w' _ from fun w' hb => few10_any w' C f ps ⟨(hp.below hb).more hb.size, fun p h => ((hpc p h).1.below hb).more hb.size⟩ (fun p h => (hpc p h).2) hpn)
  have hq := fewP_old4 fun p h => (hpc p h).1
  have hq6 := fewP_le 3 40 ps
  have hlen : (fewP 3 40 ps).length ≤ 3 := by rw [fewP_len]; omega
  obtain ⟨qs, hqs⟩ : ∃ q, fewP 3 40 ps = q := ⟨_, rfl⟩
  rw [hqs] at HF hq hlen hq6
  have HQ := Lib.hid hq
  have HQ6 := Lib.hid hq6
  obtain ⟨g, hG⟩ : ∃ n, qs.length = n := ⟨_, rfl⟩
  rw [hG] at HF hlen
  have HG := Lib.hid hG
  obtain ⟨pn, hPN⟩ : ∃ n, ps.length = n := ⟨_, rfl⟩
  rw [hPN] at HF ⊢
  obtain ⟨KT, hKT⟩ := rsum_ex
  have HKT := Lib.hid hKT
  have HMK := Lib.hid hKT.make
  clear hr hp hpc hpn hq hq6 hqs hPN hKT hG hN hkl hkb hKN
  obtain ⟨T0, hT, hT0, hT1⟩ := mod_any lt 300 (by omega) (by omega)
  obtain ⟨T, rfl⟩ : ∃ T : Nat, T0 = (T : Int) := ⟨T0.toNat, by omega⟩
  have HT := Lib.hid hT
  clear hT
  go_enter Try.func4, Try.ntmps4
  go_wp2_with fail
  refine HBK.out.mono ?_
  rintro e w1 ⟨gb, gK, A1, c1, A2, c2, rfl, mq⟩
  have Mq := Lib.hid mq
  clear mq HBK
  go_wp2_with fail
  refine (HF.out _ Mq.out.bel).mono ?_
  rintro e w2 ⟨A3, c3, rfl, mq⟩
  have Mq := Lib.hid (Mq.out.join mq)
  obtain ⟨OW, hOW⟩ : ∃ b : List Ro, [⟨24, 1, .slice A3 g c3, g, qs.map Pt.v⟩, ⟨5, 1, .slice A2 KN c2, KN, by8 kb⟩, ⟨5, 1, .slice A1 KN c1, KN, by8 kb⟩] = b := ⟨_, rfl⟩
  have Mq := Lib.hid (show Mst W w2 ((gb, 117, bkc 0 0 gK) :: [(gK, 128, #[.slice A2 KN c2])]) OW from by rw [← hOW]; exact Mq.out)
  have S1 := Lib.hid (show SPts W [] OW A3 qs from ⟨by rw [HG.out]; exact (Mq.out.sub (List.nil_sublist _) (List.Sublist.refl _)).rowSrc (e := 24) (c := c3) (by rw [← hOW]; simp), fun p h => Src.old (HQ.out p h)⟩)
  have S0 := Lib.hid (show Src W [] OW 1 A1 KN (by8 kb) from (Mq.out.sub (List.nil_sublist _) (List.Sublist.refl _)).rowSrc (e := 5) (c := c1) (by rw [← hOW]; simp))
  have SK := Lib.hid (show Src W [] OW 1 A2 KN (by8 kb) from (Mq.out.sub (List.nil_sublist _) (List.Sublist.refl _)).rowSrc (e := 5) (c := c2) (by rw [← hOW]; simp))
  have HOW := Lib.hid hOW
  clear mq HF hOW
  have HKW := Lib.hid (show ∀ w' x y, Mst W w' ((gb, 117, bkc x y gK) :: [(gK, 128, #[.slice A2 KN c2])]) OW → KeyW w' gK kb from fun w' x y h =>
    h.key (List.mem_cons_of_mem _ (List.mem_singleton_self _)) HKN.out (SK.out.sub (fun _ h => absurd h List.not_mem_nil) (fun _ h => h)))
  have HPT := Lib.hid (show ∀ w' x y, Mst W w' ((gb, 117, bkc x y gK) :: [(gK, 128, #[.slice A2 KN c2])]) OW → Pts w' A3 qs from fun w' x y h => h.pts (S1.out.sub (fun _ h => absurd h List.not_mem_nil) (fun _ h => h)))
  have HRR := Lib.hid (fun w => refright_any a t w)
  go_wp2_with fail
  obtain ⟨a', t', rfl, rfl, ha, ht⟩ := okCk_nat2 hok
  have hkn := HKN.out
  have hgn := HG.out
  have hcl : (ckB kb (t' / 64) a' (qs.map Pt.l)).length = 16 := ckB_len _ _ _ _
  have HBN := Lib.hid (bake_any W w2 [(gK, 128, #[.slice A2 KN c2])] OW gb gK 0 0 kb Mq.out (by omega) (fun w' x y h => HKW.out w' x y h) A3 c3 qs (fun w' x y h => HPT.out w' x y h) (by omega) (fun p h => by have := HQ6.out p h; omega) a' t' ha ht (by omega) (by omega))
  rw [hgn] at HBN
  obtain ⟨K, hK⟩ : ∃ K, ckB kb (t' / 64) a' (qs.map Pt.l) = K := ⟨_, rfl⟩
  rw [hK] at HBN hcl
  have KL := Lib.hid hcl
  have HK := Lib.hid hK
  rw [hok] at HRR
  clear hok hcl hK hkn hgn
  refine HBN.out.mono ?_
  rintro e w3 ⟨rfl, m3⟩
  have M3 := Lib.hid (Mst.setRow (bl := []) [] (m3.new 51 Y16) (b8a K))
  clear m3 HBN
  go_wp2_with (first | refine wpList_store_row rfl _ _ _ rfl w3.heap.size (b8a K) rfl rfl 51 _ (Bk.mk_ _ _ Y16) (info_16 KL.out) (y16_k KL.out) (b8a_one K) ?_)
  generalize hw4 : World.setRow _ _ _ = w4
  have M4 := Lib.hid ((M3.out.toW hw4 rfl).perm (List.Perm.swap _ _ _) (List.Perm.refl _))
  clear hw4 M3
  refine (HRR.out _).mono ?_
  rintro e w5 ⟨rfl, rfl⟩
  have HK3 := Lib.hid (show ∀ w' x y, Mst W w' ((gb, 117, bkc x y gK) :: [(w3.heap.size, 51, b8a K), (gK, 128, #[.slice A2 KN c2])]) OW → KeyW w' gK kb from fun w' x y h => HKW.out w' x y (h.sub (List.Sublist.cons_cons _ (List.Sublist.cons _ (List.Sublist.refl _))) (List.Sublist.refl _)))
  have HP3 := Lib.hid (show ∀ w' x y, Mst W w' ((gb, 117, bkc x y gK) :: [(w3.heap.size, 51, b8a K), (gK, 128, #[.slice A2 KN c2])]) OW → Pts w' A3 qs from fun w' x y h => HPT.out w' x y (h.sub (List.Sublist.cons_cons _ (List.Sublist.cons _ (List.Sublist.refl _))) (List.Sublist.refl _)))
  have HC3 := Lib.hid (show ∀ w' x y, Mst W w' ((gb, 117, bkc x y gK) :: [(w3.heap.size, 51, b8a K), (gK, 128, #[.slice A2 KN c2])]) OW → RB w' w'.heap.size (some ⟨w3.heap.size, 0, none⟩) K from fun w' x y h => by unfold RB; rw [KL.out]; exact h.src (Src.arr (t := 51) (by simp) KL.out))
  have hkn := HKN.out
  have hgn := HG.out
  have hkl := KL.out
  have hqb : ∀ p ∈ qs, p.l.length ≤ 1000 := fun p h => by have := HQ6.out p h; omega
  have HCH := Lib.hid (show ∀ w' (u : Nat), u ≤ 1073741824 → Mst W w' ((gb, 117, bkc (0 + 1) 0 gK) :: [(w3.heap.size, 51, b8a K), (gK, 128, #[.slice A2 KN c2])]) OW → Calls Try.prog 31 #[.pointer (some ⟨gb, 0, none⟩), .slice (some ⟨w3.heap.size, 0, none⟩) 16 16, .int .i64 (a' : Int), .int .i64 (u : Int), .slice A3 g c3] w' fun e w2 =>
      (freshB kb (u / 64) a' (qs.map Pt.l) K = true → e = .returned (.int .i64 0) ∧ Mst W w2 ((gb, 117, bkc (0 + 1) 0 gK) :: [(w3.heap.size, 51, b8a K), (gK, 128, #[.slice A2 KN c2])]) OW) ∧ (freshB kb (u / 64) a' (qs.map Pt.l) K = false → e = .returned (.int .i64 9) ∧ Below W.heap.size W w2 ∧ Mst W w2 ((gb, 117, bkc (0 + 1) (0 + 1) gK) :: [(w3.heap.size, 51, b8a K), (gK, 128, #[.slice A2 KN c2])]) OW) from fun w' u hu h => by
    have := ckcheck_M W w' [(w3.heap.size, 51, b8a K), (gK, 128, #[.slice A2 KN c2])] OW gb gK (0 + 1) 0 kb h (by omega) (fun w' x y h => HK3.out w' x y h) A3 c3 qs (fun w' x y h => HP3.out w' x y h) (by omega) hqb a' u ha hu (by omega) (by omega) (some ⟨w3.heap.size, 0, none⟩) 16 K (fun w' x y h => HC3.out w' x y h) hkl
    rw [hgn] at this
    refine this.mono ?_
    rintro e w2 ⟨h1, h2⟩
    exact ⟨h1, fun h => ⟨(h2 h).1, (h2 h).2.bel, (h2 h).2⟩⟩)
  have HFR := Lib.hid (show ∀ w' x y (u : Nat), u ≤ 1073741824 → Mst W w' ((gb, 117, bkc x y gK) :: [(w3.heap.size, 51, b8a K), (gK, 128, #[.slice A2 KN c2])]) OW → Calls Try.prog 36 #[.agg KT, .slice A1 KN c1, .slice (some ⟨w3.heap.size, 0, none⟩) 16 16, .int .i64 (a' : Int), .int .i64 (u : Int), .slice A3 g c3] w' fun r w2 => r = .returned (.bool (freshB kb (u / 64) a' (qs.map Pt.l) K)) ∧ Below w'.heap.size w' w2 from fun w' x y u hu h => by
    have hS := h.src (S0.out.sub (fun _ h => absurd h List.not_mem_nil) (fun _ h => h))
    rw [← hkn] at hS
    have := reffresh_any KT HKT.out w' A1 c1 kb hS (by omega) (some ⟨w3.heap.size, 0, none⟩) 16 K (HC3.out w' x y h) (by omega) a' u ha hu A3 c3 qs (HP3.out w' x y h) (by omega) hqb
    rw [hkn, hkl, hgn] at this
    exact this)
  obtain ⟨ep, hep⟩ : ∃ n, t' / 64 = n := ⟨_, rfl⟩
  have hkk := HK.out
  rw [hep] at hkk
  have HRC := Lib.hid (show ∀ w' x y, Mst W w' ((gb, 117, bkc x y gK) :: [(w3.heap.size, 51, b8a K), (gK, 128, #[.slice A2 KN c2])]) OW → Calls Try.prog 32 #[.agg KT, .slice A1 KN c1, .int .i64 (ep : Int), .int .i64 (a' : Int), .slice A3 g c3] w' fun r w2 => ∃ g, r = .returned (.slice (some ⟨g, 0, none⟩) 16 32) ∧ RB w2 w2.heap.size (some ⟨g, 0, none⟩) K ∧ Below w'.heap.size w' w2 from fun w' x y h => by
    have hS := h.src (S0.out.sub (fun _ h => absurd h List.not_mem_nil) (fun _ h => h))
    rw [← hkn] at hS
    have := refcookie_any KT HKT.out w' A1 c1 kb hS (by omega) ep a' (by omega) ha A3 c3 qs (HP3.out w' x y h) (by omega) hqb
    rw [hkn, hgn, hkk] at this
    exact this)
  have HSM := Lib.hid (show ∀ w' x y g', Mst W w' ((gb, 117, bkc x y gK) :: [(w3.heap.size, 51, b8a K), (gK, 128, #[.slice A2 KN c2])]) OW → RB w' w'.heap.size (some ⟨g', 0, none⟩) K → Calls Try.prog 22 #[.slice (some ⟨w3.heap.size, 0, none⟩) 16 16, .slice (some ⟨g', 0, none⟩) 16 32] w' fun e w2 => e = .returned (.bool true) ∧ Below w'.heap.size w' w2 from fun w' x y g' h h2 => by
    have := same_any (some ⟨w3.heap.size, 0, none⟩) (some ⟨g', 0, none⟩) 16 32 K K w' (HC3.out w' x y h) h2 (by unfold maxLen; omega)
    rw [hkl, decide_eq_true rfl] at this
    exact this)
  have HEP := Lib.hid (epoch_nat t' (by omega))
  have HED := Lib.hid (show ∀ w', Calls Try.prog 35 #[.int .i64 (t' : Int)] w' fun e w2 => e = .returned (.int .i64 (64 * ((ep : Int) + 2))) ∧ w2 = w' from fun w' => by
    have := ends_any t' (by omega) w'
    rw [hep, show ((64 * (ep + 2) : Nat) : Int) = 64 * ((ep : Int) + 2) by omega] at this
    exact this)
  rw [hep] at HEP
  have hd64 : (t' : Int) / 64 = ep := by omega
  have he0 : (0 : Int) ≤ ep := by omega
  have he1 : (ep : Int) ≤ 16777216 := by omega
  have hwr : IntKind.i64.wrap (ep : Int) = ep := IntWalk.i64_in _ (by omega)
  have hwr2 : IntKind.i64.wrap ((ep : Int) + 2) = (ep : Int) + 2 := IntWalk.i64_in _ (by omega)
  have hwr3 : IntKind.i64.wrap (64 * ((ep : Int) + 2)) = 64 * ((ep : Int) + 2) := IntWalk.i64_in _ (by omega)
  have HEPN := Lib.hid hep
  have Mq := M4
  clear hkn hgn hkl hqb hep hkk M4
  have HF1 := Lib.hid (show freshB kb (t' / 64) a' (qs.map Pt.l) K = true from by rw [freshB, HK.out]; simp)
  have Mq := Lib.hid Mq.out.drew
  go_upto_region 8 with fail
  refine wp_region_held_drew (S := fun _ => True) (by kernel_rfl) ?_ (fun hHeld => ?_)
  · trivial
  generalize World.drew _ = w5 at Mq hHeld ⊢
  refine wpAnyH_take (i := 0) (v := ?_) rfl (by kernel_rfl) (by kernel_rfl) (by kernel_rfl) (fun _ _ _ h => h) (Or.inl ⟨by rfl, ?_⟩) (by assumption) ?_
  rotate_left
  · intro w hSw; (try dsimp only at hSw); go_split_ands; go_simp; with_reducible rfl
  change wpAnyH _ _ _ _ _ _ _ (Act.put _ (some 56) _) _
  simp only [Act.put, List.setIfInBounds_toArray, List.set_cons_zero, List.set_cons_succ, Array.toArray_toList]
  refine wpAnyH_take (i := 1) (v := ?_) rfl (by kernel_rfl) (by kernel_rfl) (by kernel_rfl) (fun _ _ _ h => h) (Or.inl ⟨by rfl, ?_⟩) (by assumption) ?_
  rotate_left
  · intro w hSw; (try dsimp only at hSw); go_split_ands; go_simp; with_reducible rfl
  change wpAnyH _ _ _ _ _ _ _ (Act.put _ (some 57) _) _
  simp only [Act.put, List.setIfInBounds_toArray, List.set_cons_zero, List.set_cons_succ, Array.toArray_toList]
  refine wpAnyH_take (i := 2) (v := ?_) rfl (by kernel_rfl) (by kernel_rfl) (by kernel_rfl) (fun _ _ _ h => h) (Or.inl ⟨by rfl, ?_⟩) (by assumption) ?_
  rotate_left
  · intro w hSw; (try dsimp only at hSw); go_split_ands; go_simp; with_reducible rfl
  change wpAnyH _ _ _ _ _ _ _ (Act.put _ (some 58) _) _
  simp only [Act.put, List.setIfInBounds_toArray, List.set_cons_zero, List.set_cons_succ, Array.toArray_toList]
  refine wpAnyH_take (i := 3) (v := ?_) rfl (by kernel_rfl) (by kernel_rfl) (by kernel_rfl) (fun _ _ _ h => h) (Or.inl ⟨by rfl, ?_⟩) (by assumption) ?_
  rotate_left
  · intro w hSw; (try dsimp only at hSw); go_split_ands; go_simp; with_reducible rfl
  change wpAnyH _ _ _ _ _ _ _ (Act.put _ (some 59) _) _
  simp only [Act.put, List.setIfInBounds_toArray, List.set_cons_zero, List.set_cons_succ, Array.toArray_toList]
  refine wpAnyH_take (i := 5) (v := ?_) rfl (by kernel_rfl) (by kernel_rfl) (by kernel_rfl) (fun _ _ _ h => h) (Or.inl ⟨by rfl, ?_⟩) (by assumption) ?_
  rotate_left
  · intro w hSw; (try dsimp only at hSw); go_split_ands; go_simp; with_reducible rfl
  change wpAnyH _ _ _ _ _ _ _ (Act.put _ (some 61) _) _
  simp only [Act.put, List.setIfInBounds_toArray, List.set_cons_zero, List.set_cons_succ, Array.toArray_toList]
  refine wpAnyH_take (i := 6) (v := ?_) rfl (by kernel_rfl) (by kernel_rfl) (by kernel_rfl) (fun _ _ _ h => h) (Or.inl ⟨by rfl, ?_⟩) (by assumption) ?_
  rotate_left
  · intro w hSw; (try dsimp only at hSw); go_split_ands; go_simp; with_reducible rfl
  change wpAnyH _ _ _ _ _ _ _ (Act.put _ (some 62) _) _
  simp only [Act.put, List.setIfInBounds_toArray, List.set_cons_zero, List.set_cons_succ, Array.toArray_toList]
  refine wpAnyH_take (i := 7) (v := ?_) rfl (by kernel_rfl) (by kernel_rfl) (by kernel_rfl) (fun _ _ _ h => h) (Or.inl ⟨by rfl, ?_⟩) (by assumption) ?_
  rotate_left
  · intro w hSw; (try dsimp only at hSw); go_split_ands; go_simp; with_reducible rfl
  change wpAnyH _ _ _ _ _ _ _ (Act.put _ (some 63) _) _
  simp only [Act.put, List.setIfInBounds_toArray, List.set_cons_zero, List.set_cons_succ, Array.toArray_toList]
  refine wpAnyH_take (i := 8) (v := ?_) rfl (by kernel_rfl) (by kernel_rfl) (by kernel_rfl) (fun _ _ _ h => h) (Or.inl ⟨by rfl, ?_⟩) (by assumption) ?_
  rotate_left
  · intro w hSw; (try dsimp only at hSw); go_split_ands; go_simp; with_reducible rfl
  change wpAnyH _ _ _ _ _ _ _ (Act.put _ (some 64) _) _
  simp only [Act.put, List.setIfInBounds_toArray, List.set_cons_zero, List.set_cons_succ, Array.toArray_toList]
  refine wpAnyH_take (i := 9) (v := ?_) rfl (by kernel_rfl) (by kernel_rfl) (by kernel_rfl) (fun _ _ _ h => h) (Or.inl ⟨by rfl, ?_⟩) (by assumption) ?_
  rotate_left
  · intro w hSw; (try dsimp only at hSw); go_split_ands; go_simp; with_reducible rfl
  change wpAnyH _ _ _ _ _ _ _ (Act.put _ (some 65) _) _
  simp only [Act.put, List.setIfInBounds_toArray, List.set_cons_zero, List.set_cons_succ, Array.toArray_toList]
  refine wpAnyH_ready (rs := [4]) (by kernel_rfl) (by simp) ?_
  refine (AllReadyH.cons rfl (fun K hK => ?_) AllReadyH.nil)
  go_simp
  (with_reducible refine (HMK.out _).mono ?_); rintro e wq ⟨rfl, hb⟩; have Mq := Lib.hid (Mq.out.below hb); clear hb
  go_wp2_with fail
  refine hK.out _ _ (by first | assumption | go_keep) (fun hHeld => ?_)
  clear hK K
  refine wpAnyH_ready (rs := [10]) (by kernel_rfl) (by simp) ?_
  refine (AllReadyH.cons rfl (fun K hK => ?_) AllReadyH.nil)
  go_simp
  (with_reducible refine (HRC.out _ _ _ Mq.out).mono ?_); rintro e wq ⟨g9, rfl, hr9, hb⟩; have Mq := Lib.hid (Mq.out.below hb); have HR9 := Lib.hid hr9; clear hb hr9
  go_wp2_with fail
  refine hK.out _ _ (by first | assumption | go_keep) (fun hHeld => ?_)
  clear hK K
  refine wpAnyH_ready (rs := [11]) (by kernel_rfl) (by simp) ?_
  refine (AllReadyH.cons rfl (fun K hK => ?_) AllReadyH.nil)
  go_simp
  (with_reducible refine (HSM.out _ _ _ _ Mq.out HR9.out).mono ?_); rintro e wq ⟨rfl, hb⟩; have Mq := Lib.hid (Mq.out.below hb); clear hb
  go_wp2_with fail
  refine hK.out _ _ (by first | assumption | go_keep) (fun hHeld => ?_)
  clear hK K
  refine wpAnyH_take (i := 12) (v := ?_) rfl (by kernel_rfl) (by kernel_rfl) (by kernel_rfl) (fun _ _ _ h => h) (Or.inl ⟨by rfl, ?_⟩) (by assumption) ?_
  rotate_left
  · intro w hSw; (try dsimp only at hSw); go_split_ands; go_simp; with_reducible rfl
  change wpAnyH _ _ _ _ _ _ _ (Act.put _ (some 68) _) _
  simp only [Act.put, List.setIfInBounds_toArray, List.set_cons_zero, List.set_cons_succ, Array.toArray_toList]
  refine wpAnyH_take (i := 13) (v := ?_) rfl (by kernel_rfl) (by kernel_rfl) (by kernel_rfl) (fun _ _ _ h => h) (Or.inl ⟨by rfl, ?_⟩) (by assumption) ?_
  rotate_left
  · intro w hSw; (try dsimp only at hSw); go_split_ands; go_simp; with_reducible rfl
  change wpAnyH _ _ _ _ _ _ _ (Act.put _ (some 69) _) _
  simp only [Act.put, List.setIfInBounds_toArray, List.set_cons_zero, List.set_cons_succ, Array.toArray_toList]
  refine wpAnyH_take (i := 14) (v := ?_) rfl (by kernel_rfl) (by kernel_rfl) (by kernel_rfl) (fun _ _ _ h => h) (Or.inl ⟨by rfl, ?_⟩) (by assumption) ?_
  rotate_left
  · intro w hSw; (try dsimp only at hSw); go_split_ands; go_simp; with_reducible rfl
  change wpAnyH _ _ _ _ _ _ _ (Act.put _ (some 70) _) _
  simp only [Act.put, List.setIfInBounds_toArray, List.set_cons_zero, List.set_cons_succ, Array.toArray_toList]
  refine wpAnyH_take (i := 15) (v := ?_) rfl (by kernel_rfl) (by kernel_rfl) (by kernel_rfl) (fun _ _ _ h => h) (Or.inl ⟨by rfl, ?_⟩) (by assumption) ?_
  rotate_left
  · intro w hSw; (try dsimp only at hSw); go_split_ands; go_simp; with_reducible rfl
  change wpAnyH _ _ _ _ _ _ _ (Act.put _ (some 71) _) _
  simp only [Act.put, List.setIfInBounds_toArray, List.set_cons_zero, List.set_cons_succ, Array.toArray_toList]
  refine wpAnyH_take (i := 17) (v := ?_) rfl (by kernel_rfl) (by kernel_rfl) (by kernel_rfl) (fun _ _ _ h => h) (Or.inl ⟨by rfl, ?_⟩) (by assumption) ?_
  rotate_left
  · intro w hSw; (try dsimp only at hSw); go_split_ands; go_simp; with_reducible rfl
  change wpAnyH _ _ _ _ _ _ _ (Act.put _ (some 73) _) _
  simp only [Act.put, List.setIfInBounds_toArray, List.set_cons_zero, List.set_cons_succ, Array.toArray_toList]
  refine wpAnyH_take (i := 18) (v := ?_) rfl (by kernel_rfl) (by kernel_rfl) (by kernel_rfl) (fun _ _ _ h => h) (Or.inl ⟨by rfl, ?_⟩) (by assumption) ?_
  rotate_left
  · intro w hSw; (try dsimp only at hSw); go_split_ands; go_simp; with_reducible rfl
  change wpAnyH _ _ _ _ _ _ _ (Act.put _ (some 74) _) _
  simp only [Act.put, List.setIfInBounds_toArray, List.set_cons_zero, List.set_cons_succ, Array.toArray_toList]
  refine wpAnyH_ready (rs := [16]) (by kernel_rfl) (by simp) ?_
  refine (AllReadyH.cons rfl (fun K hK => ?_) AllReadyH.nil)
  go_simp
  (with_reducible refine (HEP.out _).mono ?_); rintro e wq ⟨rfl, rfl⟩
  go_wp2_with fail
  refine hK.out _ _ (by first | assumption | go_keep) (fun hHeld => ?_)
  clear hK K
  refine wpAnyH_take (i := 19) (v := ?_) rfl (by kernel_rfl) (by kernel_rfl) (by kernel_rfl) (fun _ _ _ h => h) (Or.inl ⟨by rfl, ?_⟩) (by assumption) ?_
  rotate_left
  · intro w hSw; (try dsimp only at hSw); go_split_ands; go_simp; with_reducible rfl
  change wpAnyH _ _ _ _ _ _ _ (Act.put _ (some 75) _) _
  simp only [Act.put, List.setIfInBounds_toArray, List.set_cons_zero, List.set_cons_succ, Array.toArray_toList]
  refine wpAnyH_take (i := 20) (v := ?_) rfl (by kernel_rfl) (by kernel_rfl) (by kernel_rfl) (fun _ _ _ h => h) (Or.inl ⟨by rfl, ?_⟩) (by assumption) ?_
  rotate_left
  · intro w hSw; (try dsimp only at hSw); go_split_ands; go_simp; with_reducible rfl
  change wpAnyH _ _ _ _ _ _ _ (Act.put _ (some 76) _) _
  simp only [Act.put, List.setIfInBounds_toArray, List.set_cons_zero, List.set_cons_succ, Array.toArray_toList]
  refine wpAnyH_take (i := 21) (v := ?_) rfl (by kernel_rfl) (by kernel_rfl) (by kernel_rfl) (fun _ _ _ h => h) (Or.inl ⟨by rfl, ?_⟩) (by assumption) ?_
  rotate_left
  · intro w hSw; (try dsimp only at hSw); go_split_ands; go_simp; with_reducible rfl
  change wpAnyH _ _ _ _ _ _ _ (Act.put _ (some 77) _) _
  simp only [Act.put, List.setIfInBounds_toArray, List.set_cons_zero, List.set_cons_succ, Array.toArray_toList]
  refine wpAnyH_take (i := 22) (v := ?_) rfl (by kernel_rfl) (by kernel_rfl) (by kernel_rfl) (fun _ _ _ h => h) (Or.inl ⟨by rfl, ?_⟩) (by assumption) ?_
  rotate_left
  · intro w hSw; (try dsimp only at hSw); go_split_ands; go_simp; with_reducible rfl
  change wpAnyH _ _ _ _ _ _ _ (Act.put _ (some 78) _) _
  simp only [Act.put, List.setIfInBounds_toArray, List.set_cons_zero, List.set_cons_succ, Array.toArray_toList]
  refine wpAnyH_take (i := 24) (v := ?_) rfl (by kernel_rfl) (by kernel_rfl) (by kernel_rfl) (fun _ _ _ h => h) (Or.inl ⟨by rfl, ?_⟩) (by assumption) ?_
  rotate_left
  · intro w hSw; (try dsimp only at hSw); go_split_ands; go_simp; with_reducible rfl
  change wpAnyH _ _ _ _ _ _ _ (Act.put _ (some 80) _) _
  simp only [Act.put, List.setIfInBounds_toArray, List.set_cons_zero, List.set_cons_succ, Array.toArray_toList]
  refine wpAnyH_take (i := 25) (v := ?_) rfl (by kernel_rfl) (by kernel_rfl) (by kernel_rfl) (fun _ _ _ h => h) (Or.inl ⟨by rfl, ?_⟩) (by assumption) ?_
  rotate_left
  · intro w hSw; (try dsimp only at hSw); go_split_ands; go_simp; with_reducible rfl
  change wpAnyH _ _ _ _ _ _ _ (Act.put _ (some 81) _) _
  simp only [Act.put, List.setIfInBounds_toArray, List.set_cons_zero, List.set_cons_succ, Array.toArray_toList]
  refine wpAnyH_take (i := 26) (v := ?_) rfl (by kernel_rfl) (by kernel_rfl) (by kernel_rfl) (fun _ _ _ h => h) (Or.inl ⟨by rfl, ?_⟩) (by assumption) ?_
  rotate_left
  · intro w hSw; (try dsimp only at hSw); go_split_ands; go_simp; with_reducible rfl
  change wpAnyH _ _ _ _ _ _ _ (Act.put _ (some 82) _) _
  simp only [Act.put, List.setIfInBounds_toArray, List.set_cons_zero, List.set_cons_succ, Array.toArray_toList]
  refine wpAnyH_take (i := 27) (v := ?_) rfl (by kernel_rfl) (by kernel_rfl) (by kernel_rfl) (fun _ _ _ h => h) (Or.inl ⟨by rfl, ?_⟩) (by assumption) ?_
  rotate_left
  · intro w hSw; (try dsimp only at hSw); go_split_ands; go_simp; with_reducible rfl
  change wpAnyH _ _ _ _ _ _ _ (Act.put _ (some 83) _) _
  simp only [Act.put, List.setIfInBounds_toArray, List.set_cons_zero, List.set_cons_succ, Array.toArray_toList]
  refine wpAnyH_ready (rs := [23]) (by kernel_rfl) (by simp) ?_
  refine (AllReadyH.cons rfl (fun K hK => ?_) AllReadyH.nil)
  go_simp
  (with_reducible refine (HED.out _).mono ?_); rintro e wq ⟨rfl, rfl⟩
  go_wp2_with fail
  refine hK.out _ _ (by first | assumption | go_keep) (fun hHeld => ?_)
  clear hK K
  refine wpAnyH_take (i := 28) (v := ?_) rfl (by kernel_rfl) (by kernel_rfl) (by kernel_rfl) (fun _ _ _ h => h) (Or.inl ⟨by rfl, ?_⟩) (by assumption) ?_
  rotate_left
  · intro w hSw; (try dsimp only at hSw); go_split_ands; go_simp; with_reducible rfl
  change wpAnyH _ _ _ _ _ _ _ (Act.put _ (some 84) _) _
  simp only [Act.put, List.setIfInBounds_toArray, List.set_cons_zero, List.set_cons_succ, Array.toArray_toList]
  refine wpAnyH_take (i := 29) (v := ?_) rfl (by kernel_rfl) (by kernel_rfl) (by kernel_rfl) (fun _ _ _ h => h) (Or.inl ⟨by rfl, ?_⟩) (by assumption) ?_
  rotate_left
  · intro w hSw; (try dsimp only at hSw); go_split_ands; go_simp; with_reducible rfl
  change wpAnyH _ _ _ _ _ _ _ (Act.put _ (some 85) _) _
  simp only [Act.put, List.setIfInBounds_toArray, List.set_cons_zero, List.set_cons_succ, Array.toArray_toList]
  refine wpAnyH_take (i := 30) (v := ?_) rfl (by kernel_rfl) (by kernel_rfl) (by kernel_rfl) (fun _ _ _ h => h) (Or.inl ⟨by rfl, ?_⟩) (by assumption) ?_
  rotate_left
  · intro w hSw; (try dsimp only at hSw); go_split_ands; go_simp; with_reducible rfl
  change wpAnyH _ _ _ _ _ _ _ (Act.put _ (some 86) _) _
  simp only [Act.put, List.setIfInBounds_toArray, List.set_cons_zero, List.set_cons_succ, Array.toArray_toList]
  refine wpAnyH_take (i := 31) (v := ?_) rfl (by kernel_rfl) (by kernel_rfl) (by kernel_rfl) (fun _ _ _ h => h) (Or.inl ⟨by rfl, ?_⟩) (by assumption) ?_
  rotate_left
  · intro w hSw; (try dsimp only at hSw); go_split_ands; go_simp; with_reducible rfl
  change wpAnyH _ _ _ _ _ _ _ (Act.put _ (some 87) _) _
  simp only [Act.put, List.setIfInBounds_toArray, List.set_cons_zero, List.set_cons_succ, Array.toArray_toList]
  refine wpAnyH_take (i := 32) (v := ?_) rfl (by kernel_rfl) (by kernel_rfl) (by kernel_rfl) (fun _ _ _ h => h) (Or.inl ⟨by rfl, ?_⟩) (by assumption) ?_
  rotate_left
  · intro w hSw; (try dsimp only at hSw); go_split_ands; go_simp; with_reducible rfl
  change wpAnyH _ _ _ _ _ _ _ (Act.put _ (some 88) _) _
  simp only [Act.put, List.setIfInBounds_toArray, List.set_cons_zero, List.set_cons_succ, Array.toArray_toList]
  refine wpAnyH_take (i := 33) (v := ?_) rfl (by kernel_rfl) (by kernel_rfl) (by kernel_rfl) (fun _ _ _ h => h) (Or.inl ⟨by rfl, ?_⟩) (by assumption) ?_
  rotate_left
  · intro w hSw; (try dsimp only at hSw); go_split_ands; go_simp; with_reducible rfl
  change wpAnyH _ _ _ _ _ _ _ (Act.put _ (some 89) _) _
  simp only [Act.put, List.setIfInBounds_toArray, List.set_cons_zero, List.set_cons_succ, Array.toArray_toList]
  refine wpAnyH_take (i := 34) (v := ?_) rfl (by kernel_rfl) (by kernel_rfl) (by kernel_rfl) (fun _ _ _ h => h) (Or.inl ⟨by rfl, ?_⟩) (by assumption) ?_
  rotate_left
  · intro w hSw; (try dsimp only at hSw); go_split_ands; go_simp; with_reducible rfl
  change wpAnyH _ _ _ _ _ _ _ (Act.put _ (some 90) _) _
  simp only [Act.put, List.setIfInBounds_toArray, List.set_cons_zero, List.set_cons_succ, Array.toArray_toList]
  refine wpAnyH_take (i := 35) (v := ?_) rfl (by kernel_rfl) (by kernel_rfl) (by kernel_rfl) (fun _ _ _ h => h) (Or.inl ⟨by rfl, ?_⟩) (by assumption) ?_
  rotate_left
  · intro w hSw; (try dsimp only at hSw); go_split_ands; go_simp; with_reducible rfl
  change wpAnyH _ _ _ _ _ _ _ (Act.put _ (some 91) _) _
  simp only [Act.put, List.setIfInBounds_toArray, List.set_cons_zero, List.set_cons_succ, Array.toArray_toList]
  refine wpAnyH_ready (rs := [36]) (by kernel_rfl) (by simp) ?_
  refine (AllReadyH.cons rfl (fun K hK => ?_) AllReadyH.nil)
  go_simp
  (with_reducible refine (HCH.out _ _ ht Mq.out).mono ?_); rintro e wq ⟨hb, -⟩; obtain ⟨rfl, mq⟩ := hb HF1.out; have Mq := Lib.hid mq; clear hb mq
  go_wp2_with fail
  refine hK.out _ _ (by first | assumption | go_keep) (fun hHeld => ?_)
  clear hK K
  refine wpAnyH_take (i := 37) (v := ?_) rfl (by kernel_rfl) (by kernel_rfl) (by kernel_rfl) (fun _ _ _ h => h) (Or.inl ⟨by rfl, ?_⟩) (by assumption) ?_
  rotate_left
  · intro w hSw; (try dsimp only at hSw); go_split_ands; go_simp; with_reducible rfl
  change wpAnyH _ _ _ _ _ _ _ (Act.put _ (some 93) _) _
  simp only [Act.put, List.setIfInBounds_toArray, List.set_cons_zero, List.set_cons_succ, Array.toArray_toList]
  refine wpAnyH_take (i := 38) (v := ?_) rfl (by kernel_rfl) (by kernel_rfl) (by kernel_rfl) (fun _ _ _ h => h) (Or.inl ⟨by rfl, ?_⟩) (by assumption) ?_
  rotate_left
  · intro w hSw; (try dsimp only at hSw); go_split_ands; go_simp; with_reducible rfl
  change wpAnyH _ _ _ _ _ _ _ (Act.put _ (some 94) _) _
  simp only [Act.put, List.setIfInBounds_toArray, List.set_cons_zero, List.set_cons_succ, Array.toArray_toList]
  refine wpAnyH_done (by kernel_rfl) ?_ _
  clear HF1 HSM HRC HEP HR9 hwr hwr2 hwr3
  have hT := HT.out
  have hT2 : (0 : Int) ≤ T := by omega
  have hT3 : (T : Int) < 300 := by omega
  have ha0 : (0 : Int) ≤ t' := by omega
  have ha1 : (t' : Int) ≤ 1073741824 := by omega
  go_wp2_with fail
  have HRL := Lib.hid (fun w => refright_any (a' : Int) ((t' : Int) + (T : Int)) w)
  by_cases hu : t' + T ≤ 1073741824
  rotate_left
  · have hok2 : okCk (a' : Int) ((t' : Int) + (T : Int)) = false := by simp [okCk]; omega
    rw [hok2] at HRL
    clear hok2
    refine (HRL.out _).mono ?_
    rintro e w5 ⟨rfl, rfl⟩
    go_wp2_with fail
    refine (known10 _).mono ?_
    rintro e w6 ⟨rfl, hb⟩
    have Mq := Lib.hid (Mq.out.below hb)
    clear hb
    go_wp2
    go_ret
    exact ⟨rfl, Mq.out.bel⟩
  have hok2 : okCk (a' : Int) ((t' : Int) + (T : Int)) = true := by simp [okCk]; omega
  rw [hok2] at HRL
  have HCU := fun w' h => HCH.out w' (t' + T) hu h
  have HFU := fun w' x y h => HFR.out w' x y (t' + T) hu h
  simp only [Int.natCast_add] at HCU HFU
  have HCU := Lib.hid HCU
  have HFU := Lib.hid HFU
  obtain ⟨fr, hfr⟩ : ∃ b, freshB kb ((t' + T) / 64) a' (qs.map Pt.l) K = b := ⟨_, rfl⟩
  rw [hfr] at HFU HCU
  have HFA := Lib.hid (show t' + T < 64 * (ep + 2) → fr = true from fun h => by
    rw [← hfr]
    have e1 := HK.out
    rw [HEPN.out] at e1
    have e2 : (t' + T) / 64 = ep ∨ (t' + T) / 64 = ep + 1 := by have := HEPN.out; omega
    rcases e2 with e2 | e2
    · rw [e2, freshB, e1]; simp
    · rw [e2, freshB, show ep + 1 - 1 = ep by omega, e1]; simp)
  clear hok2 hfr HCH HFR
  refine (HRL.out _).mono ?_
  rintro e w5 ⟨rfl, rfl⟩
  have Mq := Lib.hid Mq.out.drew
  by_cases hlt : t' + T < 64 * (ep + 2)
  · obtain rfl := HFA.out hlt
    have HFB := Lib.hid (rfl : true = true)
    have hts : decide ((t' : Int) + (T : Int) < 64 * ((ep : Int) + 2)) = true := by simp; omega
    clear hlt
    go_upto_region 13 with fail
    refine wp_region_held_drew (S := fun _ => True) (by kernel_rfl) ?_ (fun hHeld => ?_)
    · trivial
    generalize World.drew _ = w5 at Mq hHeld ⊢
    refine wpAnyH_ready (rs := [0]) (by kernel_rfl) (by simp) ?_
    refine (AllReadyH.cons rfl (fun K hK => ?_) AllReadyH.nil)
    go_simp
    (with_reducible refine (known10 _).mono ?_); rintro e wq ⟨rfl, hb⟩; have Mq := Lib.hid (Mq.out.below hb); clear hb
    go_wp2_with fail
    refine hK.out _ _ (by first | assumption | go_keep) (fun hHeld => ?_)
    clear hK K
    refine wpAnyH_take (i := 1) (v := ?_) rfl (by kernel_rfl) (by kernel_rfl) (by kernel_rfl) (fun _ _ _ h => h) (Or.inl ⟨by rfl, ?_⟩) (by assumption) ?_
    rotate_left
    · intro w hSw; (try dsimp only at hSw); go_split_ands; go_simp; with_reducible rfl
    change wpAnyH _ _ _ _ _ _ _ (Act.put _ (some 107) _) _
    simp only [Act.put, List.setIfInBounds_toArray, List.set_cons_zero, List.set_cons_succ, Array.toArray_toList]
    refine wpAnyH_take (i := 2) (v := ?_) rfl (by kernel_rfl) (by kernel_rfl) (by kernel_rfl) (fun _ _ _ h => h) (Or.inl ⟨by rfl, ?_⟩) (by assumption) ?_
    rotate_left
    · intro w hSw; (try dsimp only at hSw); go_split_ands; go_simp; with_reducible rfl
    change wpAnyH _ _ _ _ _ _ _ (Act.put _ (some 108) _) _
    simp only [Act.put, List.setIfInBounds_toArray, List.set_cons_zero, List.set_cons_succ, Array.toArray_toList]
    refine wpAnyH_take (i := 3) (v := ?_) rfl (by kernel_rfl) (by kernel_rfl) (by kernel_rfl) (fun _ _ _ h => h) (Or.inl ⟨by rfl, ?_⟩) (by assumption) ?_
    rotate_left
    · intro w hSw; (try dsimp only at hSw); go_split_ands; go_simp; with_reducible rfl
    change wpAnyH _ _ _ _ _ _ _ (Act.put _ (some 109) _) _
    simp only [Act.put, List.setIfInBounds_toArray, List.set_cons_zero, List.set_cons_succ, Array.toArray_toList]
    refine wpAnyH_take (i := 4) (v := ?_) rfl (by kernel_rfl) (by kernel_rfl) (by kernel_rfl) (fun _ _ _ h => h) (Or.inl ⟨by rfl, ?_⟩) (by assumption) ?_
    rotate_left
    · intro w hSw; (try dsimp only at hSw); go_split_ands; go_simp; with_reducible rfl
    change wpAnyH _ _ _ _ _ _ _ (Act.put _ (some 110) _) _
    simp only [Act.put, List.setIfInBounds_toArray, List.set_cons_zero, List.set_cons_succ, Array.toArray_toList]
    refine wpAnyH_take (i := 5) (v := ?_) rfl (by kernel_rfl) (by kernel_rfl) (by kernel_rfl) (fun _ _ _ h => h) (Or.inl ⟨by rfl, ?_⟩) (by assumption) ?_
    rotate_left
    · intro w hSw; (try dsimp only at hSw); go_split_ands; go_simp; with_reducible rfl
    change wpAnyH _ _ _ _ _ _ _ (Act.put _ (some 111) _) _
    simp only [Act.put, List.setIfInBounds_toArray, List.set_cons_zero, List.set_cons_succ, Array.toArray_toList]
    refine wpAnyH_take (i := 6) (v := ?_) rfl (by kernel_rfl) (by kernel_rfl) (by kernel_rfl) (fun _ _ _ h => h) (Or.inl ⟨by rfl, ?_⟩) (by assumption) ?_
    rotate_left
    · intro w hSw; (try dsimp only at hSw); go_split_ands; go_simp; with_reducible rfl
    change wpAnyH _ _ _ _ _ _ _ (Act.put _ (some 112) _) _
    simp only [Act.put, List.setIfInBounds_toArray, List.set_cons_zero, List.set_cons_succ, Array.toArray_toList]
    refine wpAnyH_take (i := 9) (v := ?_) rfl (by kernel_rfl) (by kernel_rfl) (by kernel_rfl) (fun _ _ _ h => h) (Or.inl ⟨by rfl, ?_⟩) (by assumption) ?_
    rotate_left
    · intro w hSw; (try dsimp only at hSw); go_split_ands; go_simp; with_reducible rfl
    change wpAnyH _ _ _ _ _ _ _ (Act.put _ (some 115) _) _
    simp only [Act.put, List.setIfInBounds_toArray, List.set_cons_zero, List.set_cons_succ, Array.toArray_toList]
    refine wpAnyH_take (i := 10) (v := ?_) rfl (by kernel_rfl) (by kernel_rfl) (by kernel_rfl) (fun _ _ _ h => h) (Or.inl ⟨by rfl, ?_⟩) (by assumption) ?_
    rotate_left
    · intro w hSw; (try dsimp only at hSw); go_split_ands; go_simp; with_reducible rfl
    change wpAnyH _ _ _ _ _ _ _ (Act.put _ (some 116) _) _
    simp only [Act.put, List.setIfInBounds_toArray, List.set_cons_zero, List.set_cons_succ, Array.toArray_toList]
    refine wpAnyH_ready (rs := [7]) (by kernel_rfl) (by simp) ?_
    refine (AllReadyH.cons rfl (fun K hK => ?_) AllReadyH.nil)
    go_simp
    (with_reducible refine (HCU.out _ Mq.out).mono ?_); rintro e wq ⟨hb, -⟩; obtain ⟨rfl, mq⟩ := hb HFB.out; have Mq := Lib.hid mq; clear hb mq
    go_wp2_with fail
    refine hK.out _ _ (by first | assumption | go_keep) (fun hHeld => ?_)
    clear hK K
    refine wpAnyH_take (i := 8) (v := ?_) rfl (by kernel_rfl) (by kernel_rfl) (by kernel_rfl) (fun _ _ _ h => h) (Or.inl ⟨by rfl, ?_⟩) (by assumption) ?_
    rotate_left
    · intro w hSw; (try dsimp only at hSw); go_split_ands; go_simp; with_reducible rfl
    change wpAnyH _ _ _ _ _ _ _ (Act.put _ (some 114) _) _
    simp only [Act.put, List.setIfInBounds_toArray, List.set_cons_zero, List.set_cons_succ, Array.toArray_toList]
    refine wpAnyH_ready (rs := [11]) (by kernel_rfl) (by simp) ?_
    refine (AllReadyH.cons rfl (fun K hK => ?_) AllReadyH.nil)
    go_simp
    (with_reducible refine (HED.out _).mono ?_); rintro e wq ⟨rfl, rfl⟩
    go_wp2_with fail
    refine hK.out _ _ (by first | assumption | go_keep) (fun hHeld => ?_)
    clear hK K
    refine wpAnyH_take (i := 12) (v := ?_) rfl (by kernel_rfl) (by kernel_rfl) (by kernel_rfl) (fun _ _ _ h => h) (Or.inl ⟨by rfl, ?_⟩) (by assumption) ?_
    rotate_left
    · intro w hSw; (try dsimp only at hSw); go_split_ands; go_simp; with_reducible rfl
    change wpAnyH _ _ _ _ _ _ _ (Act.put _ (some 118) _) _
    simp only [Act.put, List.setIfInBounds_toArray, List.set_cons_zero, List.set_cons_succ, Array.toArray_toList]
    refine wpAnyH_take (i := 13) (v := ?_) rfl (by kernel_rfl) (by kernel_rfl) (by kernel_rfl) (fun _ _ _ h => h) (Or.inl ⟨by rfl, ?_⟩) (by assumption) ?_
    rotate_left
    · intro w hSw; (try dsimp only at hSw); go_split_ands; go_simp; with_reducible rfl
    change wpAnyH _ _ _ _ _ _ _ (Act.put _ (some 119) _) _
    simp only [Act.put, List.setIfInBounds_toArray, List.set_cons_zero, List.set_cons_succ, Array.toArray_toList]
    refine wpAnyH_take (i := 14) (v := undef) rfl (by kernel_rfl) (by kernel_rfl) (by kernel_rfl) (fun _ _ _ h => h) (Or.inr ⟨by rfl, rfl⟩) (by assumption) ?_
    change wpAnyH _ _ _ _ _ _ _ (Act.put _ (some 120) _) _
    simp only [Act.put, List.setIfInBounds_toArray, List.set_cons_zero, List.set_cons_succ, Array.toArray_toList]
    refine wpAnyH_take (i := 15) (v := undef) rfl (by kernel_rfl) (by kernel_rfl) (by kernel_rfl) (fun _ _ _ h => h) (Or.inr ⟨by rfl, rfl⟩) (by assumption) ?_
    change wpAnyH _ _ _ _ _ _ _ (Act.put _ (some 121) _) _
    simp only [Act.put, List.setIfInBounds_toArray, List.set_cons_zero, List.set_cons_succ, Array.toArray_toList]
    refine wpAnyH_take (i := 16) (v := undef) rfl (by kernel_rfl) (by kernel_rfl) (by kernel_rfl) (fun _ _ _ h => h) (Or.inr ⟨by rfl, rfl⟩) (by assumption) ?_
    change wpAnyH _ _ _ _ _ _ _ (Act.put _ (some 122) _) _
    simp only [Act.put, List.setIfInBounds_toArray, List.set_cons_zero, List.set_cons_succ, Array.toArray_toList]
    refine wpAnyH_take (i := 17) (v := undef) rfl (by kernel_rfl) (by kernel_rfl) (by kernel_rfl) (fun _ _ _ h => h) (Or.inr ⟨by rfl, rfl⟩) (by assumption) ?_
    change wpAnyH _ _ _ _ _ _ _ (Act.put _ (some 123) _) _
    simp only [Act.put, List.setIfInBounds_toArray, List.set_cons_zero, List.set_cons_succ, Array.toArray_toList]
    refine wpAnyH_take (i := 18) (v := undef) rfl (by kernel_rfl) (by kernel_rfl) (by kernel_rfl) (fun _ _ _ h => h) (Or.inr ⟨by rfl, rfl⟩) (by assumption) ?_
    change wpAnyH _ _ _ _ _ _ _ (Act.put _ (some 124) _) _
    simp only [Act.put, List.setIfInBounds_toArray, List.set_cons_zero, List.set_cons_succ, Array.toArray_toList]
    refine wpAnyH_take (i := 19) (v := undef) rfl (by kernel_rfl) (by kernel_rfl) (by kernel_rfl) (fun _ _ _ h => h) (Or.inr ⟨by rfl, rfl⟩) (by assumption) ?_
    change wpAnyH _ _ _ _ _ _ _ (Act.put _ (some 125) _) _
    simp only [Act.put, List.setIfInBounds_toArray, List.set_cons_zero, List.set_cons_succ, Array.toArray_toList]
    refine wpAnyH_take (i := 20) (v := undef) rfl (by kernel_rfl) (by kernel_rfl) (by kernel_rfl) (fun _ _ _ h => h) (Or.inr ⟨by rfl, rfl⟩) (by assumption) ?_
    change wpAnyH _ _ _ _ _ _ _ (Act.put _ (some 126) _) _
    simp only [Act.put, List.setIfInBounds_toArray, List.set_cons_zero, List.set_cons_succ, Array.toArray_toList]
    refine wpAnyH_take (i := 21) (v := ?_) rfl (by kernel_rfl) (by kernel_rfl) (by kernel_rfl) (fun _ _ _ h => h) (Or.inl ⟨by rfl, ?_⟩) (by assumption) ?_
    rotate_left
    · intro w hSw; (try dsimp only at hSw); go_split_ands; go_simp; with_reducible rfl
    change wpAnyH _ _ _ _ _ _ _ (Act.put _ (some 127) _) _
    simp only [Act.put, List.setIfInBounds_toArray, List.set_cons_zero, List.set_cons_succ, Array.toArray_toList]
    refine wpAnyH_take (i := 22) (v := ?_) rfl (by kernel_rfl) (by kernel_rfl) (by kernel_rfl) (fun _ _ _ h => h) (Or.inl ⟨by rfl, ?_⟩) (by assumption) ?_
    rotate_left
    · intro w hSw; (try dsimp only at hSw); go_split_ands; go_simp; with_reducible rfl
    change wpAnyH _ _ _ _ _ _ _ (Act.put _ (some 128) _) _
    simp only [Act.put, List.setIfInBounds_toArray, List.set_cons_zero, List.set_cons_succ, Array.toArray_toList]
    refine wpAnyH_take (i := 23) (v := ?_) rfl (by kernel_rfl) (by kernel_rfl) (by kernel_rfl) (fun _ _ _ h => h) (Or.inl ⟨by rfl, ?_⟩) (by assumption) ?_
    rotate_left
    · intro w hSw; (try dsimp only at hSw); go_split_ands; go_simp; with_reducible rfl
    change wpAnyH _ _ _ _ _ _ _ (Act.put _ (some 129) _) _
    simp only [Act.put, List.setIfInBounds_toArray, List.set_cons_zero, List.set_cons_succ, Array.toArray_toList]
    refine wpAnyH_take (i := 24) (v := ?_) rfl (by kernel_rfl) (by kernel_rfl) (by kernel_rfl) (fun _ _ _ h => h) (Or.inl ⟨by rfl, ?_⟩) (by assumption) ?_
    rotate_left
    · intro w hSw; (try dsimp only at hSw); go_split_ands; go_simp; with_reducible rfl
    change wpAnyH _ _ _ _ _ _ _ (Act.put _ (some 10) _) _
    simp only [Act.put, List.setIfInBounds_toArray, List.set_cons_zero, List.set_cons_succ, Array.toArray_toList]
    refine wpAnyH_done (by kernel_rfl) ?_ _
    go_wp2
    go_ret
    exact ⟨rfl, Mq.out.bel⟩
  · have hts : decide ((t' : Int) + (T : Int) < 64 * ((ep : Int) + 2)) = false := by simp; omega
    clear hlt HFA
    cases fr with
    | true =>
      have HFB := Lib.hid (rfl : true = true)
      go_upto_region 13 with fail
      refine wp_region_held_drew (S := fun _ => True) (by kernel_rfl) ?_ (fun hHeld => ?_)
      · trivial
      generalize World.drew _ = w5 at Mq hHeld ⊢
      refine wpAnyH_ready (rs := [0]) (by kernel_rfl) (by simp) ?_
      refine (AllReadyH.cons rfl (fun K hK => ?_) AllReadyH.nil)
      go_simp
      (with_reducible refine (known10 _).mono ?_); rintro e wq ⟨rfl, hb⟩; have Mq := Lib.hid (Mq.out.below hb); clear hb
      go_wp2_with fail
      refine hK.out _ _ (by first | assumption | go_keep) (fun hHeld => ?_)
      clear hK K
      refine wpAnyH_take (i := 1) (v := ?_) rfl (by kernel_rfl) (by kernel_rfl) (by kernel_rfl) (fun _ _ _ h => h) (Or.inl ⟨by rfl, ?_⟩) (by assumption) ?_
      rotate_left
      · intro w hSw; (try dsimp only at hSw); go_split_ands; go_simp; with_reducible rfl
      change wpAnyH _ _ _ _ _ _ _ (Act.put _ (some 107) _) _
      simp only [Act.put, List.setIfInBounds_toArray, List.set_cons_zero, List.set_cons_succ, Array.toArray_toList]
      refine wpAnyH_take (i := 2) (v := ?_) rfl (by kernel_rfl) (by kernel_rfl) (by kernel_rfl) (fun _ _ _ h => h) (Or.inl ⟨by rfl, ?_⟩) (by assumption) ?_
      rotate_left
      · intro w hSw; (try dsimp only at hSw); go_split_ands; go_simp; with_reducible rfl
      change wpAnyH _ _ _ _ _ _ _ (Act.put _ (some 108) _) _
      simp only [Act.put, List.setIfInBounds_toArray, List.set_cons_zero, List.set_cons_succ, Array.toArray_toList]
      refine wpAnyH_take (i := 3) (v := ?_) rfl (by kernel_rfl) (by kernel_rfl) (by kernel_rfl) (fun _ _ _ h => h) (Or.inl ⟨by rfl, ?_⟩) (by assumption) ?_
      rotate_left
      · intro w hSw; (try dsimp only at hSw); go_split_ands; go_simp; with_reducible rfl
      change wpAnyH _ _ _ _ _ _ _ (Act.put _ (some 109) _) _
      simp only [Act.put, List.setIfInBounds_toArray, List.set_cons_zero, List.set_cons_succ, Array.toArray_toList]
      refine wpAnyH_take (i := 4) (v := ?_) rfl (by kernel_rfl) (by kernel_rfl) (by kernel_rfl) (fun _ _ _ h => h) (Or.inl ⟨by rfl, ?_⟩) (by assumption) ?_
      rotate_left
      · intro w hSw; (try dsimp only at hSw); go_split_ands; go_simp; with_reducible rfl
      change wpAnyH _ _ _ _ _ _ _ (Act.put _ (some 110) _) _
      simp only [Act.put, List.setIfInBounds_toArray, List.set_cons_zero, List.set_cons_succ, Array.toArray_toList]
      refine wpAnyH_take (i := 5) (v := ?_) rfl (by kernel_rfl) (by kernel_rfl) (by kernel_rfl) (fun _ _ _ h => h) (Or.inl ⟨by rfl, ?_⟩) (by assumption) ?_
      rotate_left
      · intro w hSw; (try dsimp only at hSw); go_split_ands; go_simp; with_reducible rfl
      change wpAnyH _ _ _ _ _ _ _ (Act.put _ (some 111) _) _
      simp only [Act.put, List.setIfInBounds_toArray, List.set_cons_zero, List.set_cons_succ, Array.toArray_toList]
      refine wpAnyH_take (i := 6) (v := ?_) rfl (by kernel_rfl) (by kernel_rfl) (by kernel_rfl) (fun _ _ _ h => h) (Or.inl ⟨by rfl, ?_⟩) (by assumption) ?_
      rotate_left
      · intro w hSw; (try dsimp only at hSw); go_split_ands; go_simp; with_reducible rfl
      change wpAnyH _ _ _ _ _ _ _ (Act.put _ (some 112) _) _
      simp only [Act.put, List.setIfInBounds_toArray, List.set_cons_zero, List.set_cons_succ, Array.toArray_toList]
      refine wpAnyH_take (i := 9) (v := ?_) rfl (by kernel_rfl) (by kernel_rfl) (by kernel_rfl) (fun _ _ _ h => h) (Or.inl ⟨by rfl, ?_⟩) (by assumption) ?_
      rotate_left
      · intro w hSw; (try dsimp only at hSw); go_split_ands; go_simp; with_reducible rfl
      change wpAnyH _ _ _ _ _ _ _ (Act.put _ (some 115) _) _
      simp only [Act.put, List.setIfInBounds_toArray, List.set_cons_zero, List.set_cons_succ, Array.toArray_toList]
      refine wpAnyH_take (i := 10) (v := ?_) rfl (by kernel_rfl) (by kernel_rfl) (by kernel_rfl) (fun _ _ _ h => h) (Or.inl ⟨by rfl, ?_⟩) (by assumption) ?_
      rotate_left
      · intro w hSw; (try dsimp only at hSw); go_split_ands; go_simp; with_reducible rfl
      change wpAnyH _ _ _ _ _ _ _ (Act.put _ (some 116) _) _
      simp only [Act.put, List.setIfInBounds_toArray, List.set_cons_zero, List.set_cons_succ, Array.toArray_toList]
      refine wpAnyH_ready (rs := [7]) (by kernel_rfl) (by simp) ?_
      refine (AllReadyH.cons rfl (fun K hK => ?_) AllReadyH.nil)
      go_simp
      (with_reducible refine (HCU.out _ Mq.out).mono ?_); rintro e wq ⟨hb, -⟩; obtain ⟨rfl, mq⟩ := hb HFB.out; have Mq := Lib.hid mq; clear hb mq
      go_wp2_with fail
      refine hK.out _ _ (by first | assumption | go_keep) (fun hHeld => ?_)
      clear hK K
      refine wpAnyH_take (i := 8) (v := ?_) rfl (by kernel_rfl) (by kernel_rfl) (by kernel_rfl) (fun _ _ _ h => h) (Or.inl ⟨by rfl, ?_⟩) (by assumption) ?_
      rotate_left
      · intro w hSw; (try dsimp only at hSw); go_split_ands; go_simp; with_reducible rfl
      change wpAnyH _ _ _ _ _ _ _ (Act.put _ (some 114) _) _
      simp only [Act.put, List.setIfInBounds_toArray, List.set_cons_zero, List.set_cons_succ, Array.toArray_toList]
      refine wpAnyH_ready (rs := [11]) (by kernel_rfl) (by simp) ?_
      refine (AllReadyH.cons rfl (fun K hK => ?_) AllReadyH.nil)
      go_simp
      (with_reducible refine (HED.out _).mono ?_); rintro e wq ⟨rfl, rfl⟩
      go_wp2_with fail
      refine hK.out _ _ (by first | assumption | go_keep) (fun hHeld => ?_)
      clear hK K
      refine wpAnyH_take (i := 12) (v := ?_) rfl (by kernel_rfl) (by kernel_rfl) (by kernel_rfl) (fun _ _ _ h => h) (Or.inl ⟨by rfl, ?_⟩) (by assumption) ?_
      rotate_left
      · intro w hSw; (try dsimp only at hSw); go_split_ands; go_simp; with_reducible rfl
      change wpAnyH _ _ _ _ _ _ _ (Act.put _ (some 118) _) _
      simp only [Act.put, List.setIfInBounds_toArray, List.set_cons_zero, List.set_cons_succ, Array.toArray_toList]
      refine wpAnyH_take (i := 13) (v := ?_) rfl (by kernel_rfl) (by kernel_rfl) (by kernel_rfl) (fun _ _ _ h => h) (Or.inl ⟨by rfl, ?_⟩) (by assumption) ?_
      rotate_left
      · intro w hSw; (try dsimp only at hSw); go_split_ands; go_simp; with_reducible rfl
      change wpAnyH _ _ _ _ _ _ _ (Act.put _ (some 119) _) _
      simp only [Act.put, List.setIfInBounds_toArray, List.set_cons_zero, List.set_cons_succ, Array.toArray_toList]
      refine wpAnyH_take (i := 15) (v := ?_) rfl (by kernel_rfl) (by kernel_rfl) (by kernel_rfl) (fun _ _ _ h => h) (Or.inl ⟨by rfl, ?_⟩) (by assumption) ?_
      rotate_left
      · intro w hSw; (try dsimp only at hSw); go_split_ands; go_simp; with_reducible rfl
      change wpAnyH _ _ _ _ _ _ _ (Act.put _ (some 121) _) _
      simp only [Act.put, List.setIfInBounds_toArray, List.set_cons_zero, List.set_cons_succ, Array.toArray_toList]
      refine wpAnyH_take (i := 16) (v := ?_) rfl (by kernel_rfl) (by kernel_rfl) (by kernel_rfl) (fun _ _ _ h => h) (Or.inl ⟨by rfl, ?_⟩) (by assumption) ?_
      rotate_left
      · intro w hSw; (try dsimp only at hSw); go_split_ands; go_simp; with_reducible rfl
      change wpAnyH _ _ _ _ _ _ _ (Act.put _ (some 122) _) _
      simp only [Act.put, List.setIfInBounds_toArray, List.set_cons_zero, List.set_cons_succ, Array.toArray_toList]
      refine wpAnyH_take (i := 17) (v := ?_) rfl (by kernel_rfl) (by kernel_rfl) (by kernel_rfl) (fun _ _ _ h => h) (Or.inl ⟨by rfl, ?_⟩) (by assumption) ?_
      rotate_left
      · intro w hSw; (try dsimp only at hSw); go_split_ands; go_simp; with_reducible rfl
      change wpAnyH _ _ _ _ _ _ _ (Act.put _ (some 123) _) _
      simp only [Act.put, List.setIfInBounds_toArray, List.set_cons_zero, List.set_cons_succ, Array.toArray_toList]
      refine wpAnyH_take (i := 18) (v := ?_) rfl (by kernel_rfl) (by kernel_rfl) (by kernel_rfl) (fun _ _ _ h => h) (Or.inl ⟨by rfl, ?_⟩) (by assumption) ?_
      rotate_left
      · intro w hSw; (try dsimp only at hSw); go_split_ands; go_simp; with_reducible rfl
      change wpAnyH _ _ _ _ _ _ _ (Act.put _ (some 124) _) _
      simp only [Act.put, List.setIfInBounds_toArray, List.set_cons_zero, List.set_cons_succ, Array.toArray_toList]
      refine wpAnyH_take (i := 19) (v := ?_) rfl (by kernel_rfl) (by kernel_rfl) (by kernel_rfl) (fun _ _ _ h => h) (Or.inl ⟨by rfl, ?_⟩) (by assumption) ?_
      rotate_left
      · intro w hSw; (try dsimp only at hSw); go_split_ands; go_simp; with_reducible rfl
      change wpAnyH _ _ _ _ _ _ _ (Act.put _ (some 125) _) _
      simp only [Act.put, List.setIfInBounds_toArray, List.set_cons_zero, List.set_cons_succ, Array.toArray_toList]
      refine wpAnyH_ready (rs := [14]) (by kernel_rfl) (by simp) ?_
      refine (AllReadyH.cons rfl (fun K hK => ?_) AllReadyH.nil)
      go_simp
      (with_reducible refine (HMK.out _).mono ?_); rintro e wq ⟨rfl, hb⟩; have Mq := Lib.hid (Mq.out.below hb); clear hb
      go_wp2_with fail
      refine hK.out _ _ (by first | assumption | go_keep) (fun hHeld => ?_)
      clear hK K
      refine wpAnyH_ready (rs := [20]) (by kernel_rfl) (by simp) ?_
      refine (AllReadyH.cons rfl (fun K hK => ?_) AllReadyH.nil)
      go_simp
      (with_reducible refine (HFU.out _ _ _ Mq.out).mono ?_); rintro e wq ⟨rfl, hb⟩; have Mq := Lib.hid (Mq.out.below hb); clear hb
      go_wp2_with fail
      refine hK.out _ _ (by first | assumption | go_keep) (fun hHeld => ?_)
      clear hK K
      refine wpAnyH_take (i := 21) (v := ?_) rfl (by kernel_rfl) (by kernel_rfl) (by kernel_rfl) (fun _ _ _ h => h) (Or.inl ⟨by rfl, ?_⟩) (by assumption) ?_
      rotate_left
      · intro w hSw; (try dsimp only at hSw); go_split_ands; go_simp; with_reducible rfl
      change wpAnyH _ _ _ _ _ _ _ (Act.put _ (some 127) _) _
      simp only [Act.put, List.setIfInBounds_toArray, List.set_cons_zero, List.set_cons_succ, Array.toArray_toList]
      refine wpAnyH_take (i := 22) (v := ?_) rfl (by kernel_rfl) (by kernel_rfl) (by kernel_rfl) (fun _ _ _ h => h) (Or.inl ⟨by rfl, ?_⟩) (by assumption) ?_
      rotate_left
      · intro w hSw; (try dsimp only at hSw); go_split_ands; go_simp; with_reducible rfl
      change wpAnyH _ _ _ _ _ _ _ (Act.put _ (some 128) _) _
      simp only [Act.put, List.setIfInBounds_toArray, List.set_cons_zero, List.set_cons_succ, Array.toArray_toList]
      refine wpAnyH_take (i := 23) (v := ?_) rfl (by kernel_rfl) (by kernel_rfl) (by kernel_rfl) (fun _ _ _ h => h) (Or.inl ⟨by rfl, ?_⟩) (by assumption) ?_
      rotate_left
      · intro w hSw; (try dsimp only at hSw); go_split_ands; go_simp; with_reducible rfl
      change wpAnyH _ _ _ _ _ _ _ (Act.put _ (some 129) _) _
      simp only [Act.put, List.setIfInBounds_toArray, List.set_cons_zero, List.set_cons_succ, Array.toArray_toList]
      refine wpAnyH_take (i := 24) (v := ?_) rfl (by kernel_rfl) (by kernel_rfl) (by kernel_rfl) (fun _ _ _ h => h) (Or.inl ⟨by rfl, ?_⟩) (by assumption) ?_
      rotate_left
      · intro w hSw; (try dsimp only at hSw); go_split_ands; go_simp; with_reducible rfl
      change wpAnyH _ _ _ _ _ _ _ (Act.put _ (some 10) _) _
      simp only [Act.put, List.setIfInBounds_toArray, List.set_cons_zero, List.set_cons_succ, Array.toArray_toList]
      refine wpAnyH_done (by kernel_rfl) ?_ _
      go_wp2
      go_ret
      exact ⟨rfl, Mq.out.bel⟩
    | false =>
      have HFB := Lib.hid (rfl : false = false)
      go_upto_region 13 with fail
      refine wp_region_held_drew (S := fun _ => True) (by kernel_rfl) ?_ (fun hHeld => ?_)
      · trivial
      generalize World.drew _ = w5 at Mq hHeld ⊢
      refine wpAnyH_ready (rs := [0]) (by kernel_rfl) (by simp) ?_
      refine (AllReadyH.cons rfl (fun K hK => ?_) AllReadyH.nil)
      go_simp
      (with_reducible refine (known10 _).mono ?_); rintro e wq ⟨rfl, hb⟩; have Mq := Lib.hid (Mq.out.below hb); clear hb
      go_wp2_with fail
      refine hK.out _ _ (by first | assumption | go_keep) (fun hHeld => ?_)
      clear hK K
      refine wpAnyH_take (i := 1) (v := ?_) rfl (by kernel_rfl) (by kernel_rfl) (by kernel_rfl) (fun _ _ _ h => h) (Or.inl ⟨by rfl, ?_⟩) (by assumption) ?_
      rotate_left
      · intro w hSw; (try dsimp only at hSw); go_split_ands; go_simp; with_reducible rfl
      change wpAnyH _ _ _ _ _ _ _ (Act.put _ (some 107) _) _
      simp only [Act.put, List.setIfInBounds_toArray, List.set_cons_zero, List.set_cons_succ, Array.toArray_toList]
      refine wpAnyH_take (i := 2) (v := ?_) rfl (by kernel_rfl) (by kernel_rfl) (by kernel_rfl) (fun _ _ _ h => h) (Or.inl ⟨by rfl, ?_⟩) (by assumption) ?_
      rotate_left
      · intro w hSw; (try dsimp only at hSw); go_split_ands; go_simp; with_reducible rfl
      change wpAnyH _ _ _ _ _ _ _ (Act.put _ (some 108) _) _
      simp only [Act.put, List.setIfInBounds_toArray, List.set_cons_zero, List.set_cons_succ, Array.toArray_toList]
      refine wpAnyH_take (i := 3) (v := ?_) rfl (by kernel_rfl) (by kernel_rfl) (by kernel_rfl) (fun _ _ _ h => h) (Or.inl ⟨by rfl, ?_⟩) (by assumption) ?_
      rotate_left
      · intro w hSw; (try dsimp only at hSw); go_split_ands; go_simp; with_reducible rfl
      change wpAnyH _ _ _ _ _ _ _ (Act.put _ (some 109) _) _
      simp only [Act.put, List.setIfInBounds_toArray, List.set_cons_zero, List.set_cons_succ, Array.toArray_toList]
      refine wpAnyH_take (i := 4) (v := ?_) rfl (by kernel_rfl) (by kernel_rfl) (by kernel_rfl) (fun _ _ _ h => h) (Or.inl ⟨by rfl, ?_⟩) (by assumption) ?_
      rotate_left
      · intro w hSw; (try dsimp only at hSw); go_split_ands; go_simp; with_reducible rfl
      change wpAnyH _ _ _ _ _ _ _ (Act.put _ (some 110) _) _
      simp only [Act.put, List.setIfInBounds_toArray, List.set_cons_zero, List.set_cons_succ, Array.toArray_toList]
      refine wpAnyH_take (i := 5) (v := ?_) rfl (by kernel_rfl) (by kernel_rfl) (by kernel_rfl) (fun _ _ _ h => h) (Or.inl ⟨by rfl, ?_⟩) (by assumption) ?_
      rotate_left
      · intro w hSw; (try dsimp only at hSw); go_split_ands; go_simp; with_reducible rfl
      change wpAnyH _ _ _ _ _ _ _ (Act.put _ (some 111) _) _
      simp only [Act.put, List.setIfInBounds_toArray, List.set_cons_zero, List.set_cons_succ, Array.toArray_toList]
      refine wpAnyH_take (i := 6) (v := ?_) rfl (by kernel_rfl) (by kernel_rfl) (by kernel_rfl) (fun _ _ _ h => h) (Or.inl ⟨by rfl, ?_⟩) (by assumption) ?_
      rotate_left
      · intro w hSw; (try dsimp only at hSw); go_split_ands; go_simp; with_reducible rfl
      change wpAnyH _ _ _ _ _ _ _ (Act.put _ (some 112) _) _
      simp only [Act.put, List.setIfInBounds_toArray, List.set_cons_zero, List.set_cons_succ, Array.toArray_toList]
      refine wpAnyH_take (i := 9) (v := ?_) rfl (by kernel_rfl) (by kernel_rfl) (by kernel_rfl) (fun _ _ _ h => h) (Or.inl ⟨by rfl, ?_⟩) (by assumption) ?_
      rotate_left
      · intro w hSw; (try dsimp only at hSw); go_split_ands; go_simp; with_reducible rfl
      change wpAnyH _ _ _ _ _ _ _ (Act.put _ (some 115) _) _
      simp only [Act.put, List.setIfInBounds_toArray, List.set_cons_zero, List.set_cons_succ, Array.toArray_toList]
      refine wpAnyH_take (i := 10) (v := ?_) rfl (by kernel_rfl) (by kernel_rfl) (by kernel_rfl) (fun _ _ _ h => h) (Or.inl ⟨by rfl, ?_⟩) (by assumption) ?_
      rotate_left
      · intro w hSw; (try dsimp only at hSw); go_split_ands; go_simp; with_reducible rfl
      change wpAnyH _ _ _ _ _ _ _ (Act.put _ (some 116) _) _
      simp only [Act.put, List.setIfInBounds_toArray, List.set_cons_zero, List.set_cons_succ, Array.toArray_toList]
      refine wpAnyH_ready (rs := [7]) (by kernel_rfl) (by simp) ?_
      refine (AllReadyH.cons rfl (fun K hK => ?_) AllReadyH.nil)
      go_simp
      (with_reducible refine (HCU.out _ Mq.out).mono ?_); rintro e wq ⟨-, hb⟩; obtain ⟨rfl, -, mq⟩ := hb HFB.out; have Mq := Lib.hid mq; clear hb mq
      go_wp2_with fail
      refine hK.out _ _ (by first | assumption | go_keep) (fun hHeld => ?_)
      clear hK K
      refine wpAnyH_take (i := 8) (v := ?_) rfl (by kernel_rfl) (by kernel_rfl) (by kernel_rfl) (fun _ _ _ h => h) (Or.inl ⟨by rfl, ?_⟩) (by assumption) ?_
      rotate_left
      · intro w hSw; (try dsimp only at hSw); go_split_ands; go_simp; with_reducible rfl
      change wpAnyH _ _ _ _ _ _ _ (Act.put _ (some 114) _) _
      simp only [Act.put, List.setIfInBounds_toArray, List.set_cons_zero, List.set_cons_succ, Array.toArray_toList]
      refine wpAnyH_ready (rs := [11]) (by kernel_rfl) (by simp) ?_
      refine (AllReadyH.cons rfl (fun K hK => ?_) AllReadyH.nil)
      go_simp
      (with_reducible refine (HED.out _).mono ?_); rintro e wq ⟨rfl, rfl⟩
      go_wp2_with fail
      refine hK.out _ _ (by first | assumption | go_keep) (fun hHeld => ?_)
      clear hK K
      refine wpAnyH_take (i := 12) (v := ?_) rfl (by kernel_rfl) (by kernel_rfl) (by kernel_rfl) (fun _ _ _ h => h) (Or.inl ⟨by rfl, ?_⟩) (by assumption) ?_
      rotate_left
      · intro w hSw; (try dsimp only at hSw); go_split_ands; go_simp; with_reducible rfl
      change wpAnyH _ _ _ _ _ _ _ (Act.put _ (some 118) _) _
      simp only [Act.put, List.setIfInBounds_toArray, List.set_cons_zero, List.set_cons_succ, Array.toArray_toList]
      refine wpAnyH_take (i := 13) (v := ?_) rfl (by kernel_rfl) (by kernel_rfl) (by kernel_rfl) (fun _ _ _ h => h) (Or.inl ⟨by rfl, ?_⟩) (by assumption) ?_
      rotate_left
      · intro w hSw; (try dsimp only at hSw); go_split_ands; go_simp; with_reducible rfl
      change wpAnyH _ _ _ _ _ _ _ (Act.put _ (some 119) _) _
      simp only [Act.put, List.setIfInBounds_toArray, List.set_cons_zero, List.set_cons_succ, Array.toArray_toList]
      refine wpAnyH_take (i := 15) (v := ?_) rfl (by kernel_rfl) (by kernel_rfl) (by kernel_rfl) (fun _ _ _ h => h) (Or.inl ⟨by rfl, ?_⟩) (by assumption) ?_
      rotate_left
      · intro w hSw; (try dsimp only at hSw); go_split_ands; go_simp; with_reducible rfl
      change wpAnyH _ _ _ _ _ _ _ (Act.put _ (some 121) _) _
      simp only [Act.put, List.setIfInBounds_toArray, List.set_cons_zero, List.set_cons_succ, Array.toArray_toList]
      refine wpAnyH_take (i := 16) (v := ?_) rfl (by kernel_rfl) (by kernel_rfl) (by kernel_rfl) (fun _ _ _ h => h) (Or.inl ⟨by rfl, ?_⟩) (by assumption) ?_
      rotate_left
      · intro w hSw; (try dsimp only at hSw); go_split_ands; go_simp; with_reducible rfl
      change wpAnyH _ _ _ _ _ _ _ (Act.put _ (some 122) _) _
      simp only [Act.put, List.setIfInBounds_toArray, List.set_cons_zero, List.set_cons_succ, Array.toArray_toList]
      refine wpAnyH_take (i := 17) (v := ?_) rfl (by kernel_rfl) (by kernel_rfl) (by kernel_rfl) (fun _ _ _ h => h) (Or.inl ⟨by rfl, ?_⟩) (by assumption) ?_
      rotate_left
      · intro w hSw; (try dsimp only at hSw); go_split_ands; go_simp; with_reducible rfl
      change wpAnyH _ _ _ _ _ _ _ (Act.put _ (some 123) _) _
      simp only [Act.put, List.setIfInBounds_toArray, List.set_cons_zero, List.set_cons_succ, Array.toArray_toList]
      refine wpAnyH_take (i := 18) (v := ?_) rfl (by kernel_rfl) (by kernel_rfl) (by kernel_rfl) (fun _ _ _ h => h) (Or.inl ⟨by rfl, ?_⟩) (by assumption) ?_
      rotate_left
      · intro w hSw; (try dsimp only at hSw); go_split_ands; go_simp; with_reducible rfl
      change wpAnyH _ _ _ _ _ _ _ (Act.put _ (some 124) _) _
      simp only [Act.put, List.setIfInBounds_toArray, List.set_cons_zero, List.set_cons_succ, Array.toArray_toList]
      refine wpAnyH_take (i := 19) (v := ?_) rfl (by kernel_rfl) (by kernel_rfl) (by kernel_rfl) (fun _ _ _ h => h) (Or.inl ⟨by rfl, ?_⟩) (by assumption) ?_
      rotate_left
      · intro w hSw; (try dsimp only at hSw); go_split_ands; go_simp; with_reducible rfl
      change wpAnyH _ _ _ _ _ _ _ (Act.put _ (some 125) _) _
      simp only [Act.put, List.setIfInBounds_toArray, List.set_cons_zero, List.set_cons_succ, Array.toArray_toList]
      refine wpAnyH_ready (rs := [14]) (by kernel_rfl) (by simp) ?_
      refine (AllReadyH.cons rfl (fun K hK => ?_) AllReadyH.nil)
      go_simp
      (with_reducible refine (HMK.out _).mono ?_); rintro e wq ⟨rfl, hb⟩; have Mq := Lib.hid (Mq.out.below hb); clear hb
      go_wp2_with fail
      refine hK.out _ _ (by first | assumption | go_keep) (fun hHeld => ?_)
      clear hK K
      refine wpAnyH_ready (rs := [20]) (by kernel_rfl) (by simp) ?_
      refine (AllReadyH.cons rfl (fun K hK => ?_) AllReadyH.nil)
      go_simp
      (with_reducible refine (HFU.out _ _ _ Mq.out).mono ?_); rintro e wq ⟨rfl, hb⟩; have Mq := Lib.hid (Mq.out.below hb); clear hb
      go_wp2_with fail
      refine hK.out _ _ (by first | assumption | go_keep) (fun hHeld => ?_)
      clear hK K
      refine wpAnyH_take (i := 21) (v := ?_) rfl (by kernel_rfl) (by kernel_rfl) (by kernel_rfl) (fun _ _ _ h => h) (Or.inl ⟨by rfl, ?_⟩) (by assumption) ?_
      rotate_left
      · intro w hSw; (try dsimp only at hSw); go_split_ands; go_simp; with_reducible rfl
      change wpAnyH _ _ _ _ _ _ _ (Act.put _ (some 127) _) _
      simp only [Act.put, List.setIfInBounds_toArray, List.set_cons_zero, List.set_cons_succ, Array.toArray_toList]
      refine wpAnyH_take (i := 22) (v := ?_) rfl (by kernel_rfl) (by kernel_rfl) (by kernel_rfl) (fun _ _ _ h => h) (Or.inl ⟨by rfl, ?_⟩) (by assumption) ?_
      rotate_left
      · intro w hSw; (try dsimp only at hSw); go_split_ands; go_simp; with_reducible rfl
      change wpAnyH _ _ _ _ _ _ _ (Act.put _ (some 128) _) _
      simp only [Act.put, List.setIfInBounds_toArray, List.set_cons_zero, List.set_cons_succ, Array.toArray_toList]
      refine wpAnyH_take (i := 23) (v := ?_) rfl (by kernel_rfl) (by kernel_rfl) (by kernel_rfl) (fun _ _ _ h => h) (Or.inl ⟨by rfl, ?_⟩) (by assumption) ?_
      rotate_left
      · intro w hSw; (try dsimp only at hSw); go_split_ands; go_simp; with_reducible rfl
      change wpAnyH _ _ _ _ _ _ _ (Act.put _ (some 129) _) _
      simp only [Act.put, List.setIfInBounds_toArray, List.set_cons_zero, List.set_cons_succ, Array.toArray_toList]
      refine wpAnyH_take (i := 24) (v := ?_) rfl (by kernel_rfl) (by kernel_rfl) (by kernel_rfl) (fun _ _ _ h => h) (Or.inl ⟨by rfl, ?_⟩) (by assumption) ?_
      rotate_left
      · intro w hSw; (try dsimp only at hSw); go_split_ands; go_simp; with_reducible rfl
      change wpAnyH _ _ _ _ _ _ _ (Act.put _ (some 10) _) _
      simp only [Act.put, List.setIfInBounds_toArray, List.set_cons_zero, List.set_cons_succ, Array.toArray_toList]
      refine wpAnyH_done (by kernel_rfl) ?_ _
      go_wp2
      go_ret
      exact ⟨rfl, Mq.out.bel⟩
end Go.Proofs.Ytiakgohipnbdbaa
