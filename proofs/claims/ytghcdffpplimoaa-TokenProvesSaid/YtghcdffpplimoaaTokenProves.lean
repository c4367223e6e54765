/-
  vigillaw06.TokenProves returns true, whatever it is called with. Conditions: none but that the slices can be read.
-/
import Derived.Test.YtghcdffpplimoaaTk7
import Derived.Test.YtghcdffpplimoaaTk0
namespace Go.Proofs.Ytghcdffpplimoaa
set_option linter.unusedVariables false
set_option linter.unusedSimpArgs false
open Go.RowKit

abbrev fewRow (A : Option Addr) (N c : Nat) (qs : List Pt) : Ro := ⟨26, 1, .slice A N c, N, qs.map Pt.v⟩
set_option maxRecDepth 100000 in
set_option maxHeartbeats 3200000 in
theorem tokenProves_main (W : World) (A1 A2 A3 : Option Addr) (c1 c2 c3 : Nat) (l1 l2 : List UInt8) (i r x s : Int) (h1 : RB W W.heap.size A1 l1) (d1 : l1.length ≤ c1 ∧ c1 ≤ 9223372036854775807) (h2 : RB W W.heap.size A2 l2) (d2 : l2.length ≤ c2 ∧ c2 ≤ 9223372036854775807)
    (ps : List Pt) (hp : Pts W A3 ps) (hpc : ∀ p ∈ ps, p.l.length ≤ p.c ∧ p.c ≤ 9223372036854775807) (hpn : ps.length ≤ 9223372036854775807) :
    Calls Try.prog 4 #[.slice A1 l1.length c1, .agg #[.int .i64 i, .int .i64 r, .int .i64 x, .int .i64 s], .slice A2 l2.length c2, .slice A3 ps.length c3] W fun e W' => e = .returned (.bool true) ∧ Below W.heap.size W W' := by
  obtain ⟨k, k1, r1, k3, -, HC1⟩ := cut_ex6 70 h1 d1 (by decide)
  obtain ⟨tg, n1, r2, n3, -, HC2⟩ := cut_ex6 40 h2 d2 (by decide)
  have HR1 := Lib.hid (fun w' (hb : Below W.heap.size W w') => RB.keep r1 hb)
  have HR2 := Lib.hid (fun w' (hb : Below W.heap.size W w') => RB.keep r2 hb)
  have hfw := fun w' (hb : Below W.heap.size W w') => few06_any w' A3 c3 ps (hp.stay hb) hpc hpn
  have hq1 : ∀ q ∈ fewP 4 40 ps, RB W W.heap.size q.A q.l := fewP_old hp.2
  have hq2 : ∀ q ∈ fewP 4 40 ps, q.l.length ≤ 1000 := fun q hq => Nat.le_trans (fewP_le 4 40 ps q hq) (by decide)
  have hq3 : (fewP 4 40 ps).length ≤ 90 := by rw [fewP_len]; omega
  obtain ⟨qs, hqs⟩ : ∃ qs, fewP 4 40 ps = qs := ⟨_, rfl⟩
  simp only [hqs] at hfw hq1 hq2 hq3
  obtain ⟨KT, hKT⟩ := rsum_ex
  have HMK := Lib.hid hKT.make
  have HNW := Lib.hid (fun w h => new_any w A1 c1 k h (by omega))
  have HPT := Lib.hid (show ∀ w' bl ow A N c, N = qs.length → Mst W w' bl (fewRow A N c qs :: ow) → Pts w' A qs from fun w' bl ow A N c hN h => by
    have hr := own_rd (h.row [])
    rw [hN] at hr
    exact ⟨hr, fun q hq => RB.keep (hq1 q hq) h.bel⟩)
  have HPO := Lib.hid (fun w' gk (hk : KeyW w' gk k) hcl ht A c hpt R hR => proves_ok w' gk k hk (by omega) i r x s hcl A2 c2 tg ht (by omega) A c qs hpt hq3 hq2 R hR)
  have HPB := Lib.hid (fun w' gk hcl A c N => proves_bad w' gk i r x s hcl A2 A tg.length c2 N c)
  have HRS := Lib.hid (fun w' h hcl => refsec_any KT hKT w' A1 c1 k h (by omega) i r x s hcl)
  have HRP := Lib.hid (fun w' A' c' (K : List UInt8) (hK : K.length = 32) h A c hpt => refprove_any KT hKT w' A' c' K h (by omega) A c qs hpt hq3 hq2)
  obtain ⟨n, hN⟩ : ∃ n, qs.length = n := ⟨_, rfl⟩
  obtain ⟨N1, e1⟩ : ∃ n, l1.length = n := ⟨_, rfl⟩
  obtain ⟨N2, e2⟩ : ∃ n, l2.length = n := ⟨_, rfl⟩
  obtain ⟨N3, e3⟩ : ∃ n, ps.length = n := ⟨_, rfl⟩
  obtain ⟨M1, f1⟩ : ∃ n, k.length = n := ⟨_, rfl⟩
  obtain ⟨M2, f2⟩ : ∃ n, tg.length = n := ⟨_, rfl⟩
  simp only [e1, e2, e3, f1, f2, hN] at HC1 HC2 HNW HPO HPB HRS HRP hfw ⊢
  have HC1 := Lib.hid HC1
  have HC2 := Lib.hid HC2
  have HFW := Lib.hid hfw
  have HN := Lib.hid hN.symm
  have hM2 : M2 ≤ 40 := by omega
  have HF2 := Lib.hid f2
  have HKT := Lib.hid hKT
  have hki := hKT.infL
  have M0 := Lib.hid ((Mst.start W).new 23 #[.int .i64 i, .int .i64 r, .int .i64 x, .int .i64 s])
  have HCL := Lib.hid (show ∀ w' bl ow, Mst W w' (bl ++ [(W.heap.size, 23, #[.int .i64 i, .int .i64 r, .int .i64 x, .int .i64 s])]) ow → w'.cell? ⟨W.heap.size, 0, none⟩ = some (.int .i64 i) ∧ w'.cell? ⟨W.heap.size, 1, none⟩ = some (.int .i64 r) ∧ w'.cell? ⟨W.heap.size, 2, none⟩ = some (.int .i64 x) ∧ w'.cell? ⟨W.heap.size, 3, none⟩ = some (.int .i64 s) from
    fun w' bl ow h => ⟨(h.blk bl).cell 0, (h.blk bl).cell 1, (h.blk bl).cell 2, (h.blk bl).cell 3⟩)
  clear h1 h2 d1 d2 hp hpc hpn k1 r1 k3 n1 r2 n3 hfw hq1 hq2 hq3 hqs hKT hN e1 e2 e3 f1 f2
  go_enter Try.func4, Try.ntmps4
  go_wp2_with fail
  refine (HC1.out _).mono ?_
  rintro e w1 ⟨rfl, hw1⟩
  have Mq := Lib.hid (show Mst W w1 ([] ++ [_]) [] from hw1 ▸ M0.out)
  clear hw1 HC1
  go_wp2_with fail
  refine (HC2.out _).mono ?_
  rintro e w1 ⟨rfl, rfl⟩
  clear HC2
  go_wp2_with fail
  refine (HFW.out _ Mq.out.bel).mono ?_
  rintro e w2 ⟨A', c', rfl, m⟩
  have Mq := Lib.hid (show Mst W w2 ([] ++ [_]) [fewRow A' n c' qs] from (Mq.out.join m))
  clear m HFW
  by_cases hcl : clOk i r x s
  · have hri := fun w => right05_any i r x s w
    rw [decide_eq_true hcl] at hri
    have HRI := Lib.hid hri
    have HRS := Lib.hid (fun w' h => HRS.out w' h hcl)
    have HPO := Lib.hid (fun w' gk hk ht A c hpt R hR => HPO.out w' gk hk hcl ht A c hpt R hR)
    obtain ⟨S, hS⟩ : ∃ S, secB k i r x s = S := ⟨_, rfl⟩
    have hSl : S.length = 32 := by rw [← hS]; rfl
    obtain ⟨T, hT⟩ : ∃ T, prvB S (qs.map Pt.l) = T := ⟨_, rfl⟩
    have hTl : T.length = 32 := by rw [← hT]; rfl
    obtain ⟨R, hR⟩ : ∃ R, decide (tg = T) = R := ⟨_, rfl⟩
    simp only [hS, hT] at HRS HPO
    obtain ⟨ev, hev⟩ : ∃ ev : Int, (if R then (0 : Int) else 5) = ev := ⟨_, rfl⟩
    have hpo := fun w' gk hk ht A c hpt => HPO.out w' gk hk ht A c hpt R hR
    simp only [hev] at hpo
    have HPO := Lib.hid hpo
    have HEV := Lib.hid hev
    have HRP := Lib.hid (fun w' A' c' h A c hpt => HRP.out w' A' c' S hSl h A c hpt)
    simp only [hT, hSl] at HRP
    have HSM := Lib.hid (show ∀ w' A' c', RB w' w'.heap.size A2 tg → RB w' w'.heap.size A' T → Calls Try.prog 21 #[.slice A2 M2 c2, .slice A' 32 c'] w' fun e w2 => e = .returned (.bool R) ∧ Below w'.heap.size w' w2 from fun w' A' c' h1 h2 => by
      have := same_any A2 A' c2 c' tg T w' h1 h2 (by rw [HF2.out]; unfold maxLen; omega)
      rw [HF2.out, hTl, hR] at this
      exact this)
    have SL := Lib.hid hSl
    have TL := Lib.hid hTl
    have K0 := Lib.hid (HCL.out _ _ _ (Mq.out.below (Below.refl _ _).drew))
    clear hcl hri hS hSl hT hTl hR hpo hev
    go_upto_region 3 with fail
    refine wp_region_held_drew (S := fun w' => w'.cell? ⟨W.heap.size, 0, none⟩ = some (.int .i64 i) ∧ w'.cell? ⟨W.heap.size, 1, none⟩ = some (.int .i64 r) ∧ w'.cell? ⟨W.heap.size, 2, none⟩ = some (.int .i64 x) ∧ w'.cell? ⟨W.heap.size, 3, none⟩ = some (.int .i64 s)) (by kernel_rfl) ?_ (fun hHeld => ?_)
    · exact K0.out
    generalize hw7 : World.drew _ = w7 at hHeld ⊢
    have Mq := Lib.hid (show Mst W w7 ([] ++ [_]) [fewRow A' n c' qs] from hw7 ▸ Mq.out.below (Below.refl _ _).drew)
    clear hw7
    refine wpAnyH_take (i := 0) (v := ?_) rfl (by kernel_rfl) (by kernel_rfl) (by kernel_rfl) (fun _ _ _ h => h) (Or.inl ⟨by rfl, ?_⟩) (by assumption) ?_
    rotate_left
    · intro w hSw; (try dsimp only at hSw); go_split_ands; go_simp; with_reducible rfl
    change wpAnyH _ _ _ _ _ _ _ (Act.put _ (some 20) _) _
    simp only [Act.put, List.setIfInBounds_toArray, List.set_cons_zero, List.set_cons_succ, Array.toArray_toList]
    refine wpAnyH_take (i := 2) (v := ?_) rfl (by kernel_rfl) (by kernel_rfl) (by kernel_rfl) (fun _ _ _ h => h) (Or.inl ⟨by rfl, ?_⟩) (by assumption) ?_
    rotate_left
    · intro w hSw; (try dsimp only at hSw); go_split_ands; go_simp; with_reducible rfl
    change wpAnyH _ _ _ _ _ _ _ (Act.put _ (some 22) _) _
    simp only [Act.put, List.setIfInBounds_toArray, List.set_cons_zero, List.set_cons_succ, Array.toArray_toList]
    refine wpAnyH_take (i := 4) (v := ?_) rfl (by kernel_rfl) (by kernel_rfl) (by kernel_rfl) (fun _ _ _ h => h) (Or.inl ⟨by rfl, ?_⟩) (by assumption) ?_
    rotate_left
    · intro w hSw; (try dsimp only at hSw); go_split_ands; go_simp; with_reducible rfl
    change wpAnyH _ _ _ _ _ _ _ (Act.put _ (some 24) _) _
    simp only [Act.put, List.setIfInBounds_toArray, List.set_cons_zero, List.set_cons_succ, Array.toArray_toList]
    refine wpAnyH_take (i := 5) (v := ?_) rfl (by kernel_rfl) (by kernel_rfl) (by kernel_rfl) (fun _ _ _ h => h) (Or.inl ⟨by rfl, ?_⟩) (by assumption) ?_
    rotate_left
    · intro w hSw; (try dsimp only at hSw); go_split_ands; go_simp; with_reducible rfl
    change wpAnyH _ _ _ _ _ _ _ (Act.put _ (some 25) _) _
    simp only [Act.put, List.setIfInBounds_toArray, List.set_cons_zero, List.set_cons_succ, Array.toArray_toList]
    refine wpAnyH_ready (rs := [1]) (by kernel_rfl) (by simp) ?_
    refine (AllReadyH.cons rfl (fun K hK => ?_) AllReadyH.nil)
    go_simp
    (with_reducible refine (HNW.out _ (HR1.out _ Mq.out.bel)).mono ?_); rintro e wq ⟨gk, rfl, hk, hb⟩; have Mq := Lib.hid (Mq.out.below hb); have HK := Lib.hid hk; clear hb hk
    go_wp2_with fail
    refine hK.out _ _ (by exact HCL.out _ _ _ Mq.out) (fun hHeld => ?_)
    clear hK K
    refine wpAnyH_ready (rs := [3]) (by kernel_rfl) (by simp) ?_
    refine (AllReadyH.cons rfl (fun K hK => ?_) AllReadyH.nil)
    go_simp
    (with_reducible refine (to05_any _ _ _ _ _).mono ?_); rintro e wq ⟨rfl, hb⟩; have Mq := Lib.hid (Mq.out.below hb); have HK := Lib.hid (HK.out.keep hb); clear hb
    go_wp2_with fail
    refine hK.out _ _ (by exact HCL.out _ _ _ Mq.out) (fun hHeld => ?_)
    clear hK K
    refine wpAnyH_ready (rs := [6]) (by kernel_rfl) (by simp) ?_
    refine (AllReadyH.cons rfl (fun K hK => ?_) AllReadyH.nil)
    go_simp
    (with_reducible refine (HPO.out _ _ HK.out (HR2.out _ Mq.out.bel) _ _ (HPT.out _ _ _ _ _ _ HN.out Mq.out)).mono ?_); rintro e wq ⟨rfl, hb⟩; have Mq := Lib.hid (Mq.out.below hb); clear hb
    go_wp2_with fail
    refine hK.out _ _ (by exact HCL.out _ _ _ Mq.out) (fun hHeld => ?_)
    clear hK K
    refine wpAnyH_take (i := 7) (v := ?_) rfl (by kernel_rfl) (by kernel_rfl) (by kernel_rfl) (fun _ _ _ h => h) (Or.inl ⟨by rfl, ?_⟩) (by assumption) ?_
    rotate_left
    · intro w hSw; (try dsimp only at hSw); go_split_ands; go_simp; with_reducible rfl
    change wpAnyH _ _ _ _ _ _ _ (Act.put _ (some 10) _) _
    simp only [Act.put, List.setIfInBounds_toArray, List.set_cons_zero, List.set_cons_succ, Array.toArray_toList]
    refine wpAnyH_done (by kernel_rfl) ?_ _
    have k0 := HCL.out _ _ _ Mq.out
    go_wp2_with fail
    refine (HRI.out _).mono ?_
    rintro e w5 ⟨rfl, hb⟩
    have Mq := Lib.hid (Mq.out.below hb)
    clear hb k0 hHeld K0 HPO
    go_wp2_with fail
    refine (HMK.out _).mono ?_
    rintro e w6 ⟨rfl, hb⟩
    have Mq := Lib.hid (Mq.out.below hb)
    clear hb
    go_upto_region 7 with (first | refine wpList_store_row rfl _ _ _ rfl w6.heap.size KT rfl rfl 61 _ (Bk.mk_ _ _ _) HKT.out.inf HKT.out.z72 HKT.out.one ?_)
    have Mr := Lib.hid (Mst.setRow (bl := []) [] (Mq.out.new 61 Z72) KT)
    generalize hw7 : World.setRow _ _ _ = w7
    have Mq := Lib.hid (show Mst W w7 ([(w6.heap.size, 61, KT)] ++ [_]) [fewRow A' n c' qs] from Mr.out.toV hw7 rfl)
    clear Mr hw7
    have k0 := HCL.out _ _ _ Mq.out
    have k1 := (Mq.out.blk []).rangeL
    go_wp2_with (first | refine wpList_load_mid rfl _ _ rfl w6.heap.size 0 rfl KT.toList _ k1 Try.underlying61 rfl hki ?_)
    refine (HRS.out _ (HR1.out _ Mq.out.bel)).mono ?_
    rintro e w8 ⟨rfl, hb⟩
    have Mq := Lib.hid (Mq.out.below hb)
    clear hb k0 k1
    go_upto_region 8 with (first | refine wpList_store_row rfl _ _ _ rfl w8.heap.size (b8a S) rfl rfl 27 _ (Bk.mk_ _ _ _) (info_k SL.out) (y32_k SL.out) (b8a_one S) ?_)
    have Mr := Lib.hid (Mst.setRow (bl := []) [] (Mq.out.new 27 Y32) (b8a S)).drew
    have HCT := Lib.hid (show ∀ w' bl ow, Mst W w' (bl ++ [(w8.heap.size, 27, b8a S), (w6.heap.size, 61, KT), (W.heap.size, 23, #[.int .i64 i, .int .i64 r, .int .i64 x, .int .i64 s])]) ow → w'.rangeAt w6.heap.size 0 KT.toList ∧ RB w' w'.heap.size (some ⟨w8.heap.size, 0, none⟩) S from
      fun w' bl ow h => ⟨by
        have := (h.bk (w6.heap.size, 61, KT) (by simp)).1
        exact this.rangeL, by
        have := h.blk bl
        exact ⟨by simp [by8], fun _ => ⟨w8.heap.size, 0, rfl, this.lt, fun j u hu => by rw [this.cell, Nat.zero_add]; simpa [b8a] using hu⟩⟩⟩)
    have hu : ∃ d, Try.prog.underlying 61 = some d ∧ d.isRow = true := ⟨_, Try.underlying61, rfl⟩
    obtain ⟨d, hu, hd⟩ := hu
    refine wp_region_held_drew (S := fun w' => w'.rangeAt w6.heap.size 0 KT.toList) (by kernel_rfl) ?_ (fun hHeld => ?_)
    · exact (HCT.out _ [] _ Mr.out).1
    generalize hw9 : World.drew _ = w9 at hHeld ⊢
    have Mq := Lib.hid (show Mst W w9 ([] ++ [(w8.heap.size, 27, b8a S), (w6.heap.size, 61, KT), (W.heap.size, 23, #[.int .i64 i, .int .i64 r, .int .i64 x, .int .i64 s])]) [fewRow A' n c' qs] from Mr.out.toV hw9 rfl)
    clear hw9
    refine wpAnyH_take (i := 0) rfl (by kernel_rfl) (by kernel_rfl) (by kernel_rfl) (fun _ _ _ h => h) (yieldsIf_load_mid (by rfl) _ _ rfl _ _ rfl _ _ (fun w hw => hw) hu hd hki) (by assumption) ?_
    change wpAnyH _ _ _ _ _ _ _ (Act.put _ (some 40) _) _
    simp only [Act.put, List.setIfInBounds_toArray, List.set_cons_zero, List.set_cons_succ, Array.toArray_toList]
    refine wpAnyH_take (i := 1) (v := ?_) rfl (by kernel_rfl) (by kernel_rfl) (by kernel_rfl) (fun _ _ _ h => h) (Or.inl ⟨by rfl, ?_⟩) (by assumption) ?_
    rotate_left
    · intro w hSw; (try dsimp only at hSw); go_split_ands; go_simp; with_reducible rfl
    change wpAnyH _ _ _ _ _ _ _ (Act.put _ (some 41) _) _
    simp only [Act.put, List.setIfInBounds_toArray, List.set_cons_zero, List.set_cons_succ, Array.toArray_toList]
    refine wpAnyH_take (i := 2) (v := ?_) rfl (by kernel_rfl) (by kernel_rfl) (by kernel_rfl) (fun _ _ _ h => h) (Or.inl ⟨by rfl, ?_⟩) (by assumption) ?_
    rotate_left
    · intro w hSw; (try dsimp only at hSw); go_split_ands; go_simp; with_reducible rfl
    change wpAnyH _ _ _ _ _ _ _ (Act.put _ (some 42) _) _
    simp only [Act.put, List.setIfInBounds_toArray, List.set_cons_zero, List.set_cons_succ, Array.toArray_toList]
    refine wpAnyH_ready (rs := [3, 4]) (by kernel_rfl) (by simp) ?_
    refine (AllReadyH.cons rfl (fun K hK => ?_) (AllReadyH.cons rfl (fun K hK => ?_) AllReadyH.nil))
    · skip
      go_simp
      (with_reducible refine (HRP.out _ _ _ (by first | exact (HCT.out _ [] _ Mq.out).2 | exact (HCT.out _ [_] _ Mq.out).2) _ _ (HPT.out _ _ _ _ _ _ HN.out Mq.out)).mono ?_); rintro e wq ⟨rfl, hb⟩; have Mq := Lib.hid (Mq.out.below hb); clear hb
      go_wp2_with fail
      refine hK.out _ _ (by first | exact (HCT.out _ [] _ Mq.out).1 | exact (HCT.out _ [_] _ Mq.out).1) (fun hHeld => ?_)
      clear hK K
      refine wpAnyH_ready (rs := [4]) (by kernel_rfl) (by simp) ?_
      refine (AllReadyH.cons rfl (fun K hK => ?_) AllReadyH.nil)
      go_simp; generalize hwq : World.alloc _ _ = wq2; obtain ⟨g12, hg12, mq⟩ := Mq.out.newX hwq; rw [hg12]; have Mq := Lib.hid mq; clear hwq hg12 mq
      refine hK.out _ _ (by first | exact (HCT.out _ [] _ Mq.out).1 | exact (HCT.out _ [_] _ Mq.out).1) (fun hHeld => ?_)
      clear hK K
      refine wpAnyH_ready (rs := [5]) (by kernel_rfl) (by simp) ?_
      refine (AllReadyH.cons rfl (fun K hK => ?_) AllReadyH.nil)
      refine step_store_row rfl _ _ _ rfl g12 (b8a T) rfl rfl 27 _ (Mq.out.blk []) (info_k TL.out) (y32_k TL.out) (b8a_one T) ?_; have Mq := Lib.hid (Mst.setRow (bl := []) [] Mq.out (b8a T))
      refine hK.out _ _ (by first | exact (HCT.out _ [] _ Mq.out).1 | exact (HCT.out _ [_] _ Mq.out).1) (fun hHeld => ?_)
      clear hK K
      refine wpAnyH_done (by kernel_rfl) ?_ _
      clear hHeld Mr
      go_wp2_with fail
      refine (known06 _).mono ?_
      rintro e w12 ⟨rfl, hb⟩
      have Mq := Lib.hid (Mq.out.below hb)
      have HRT := Lib.hid (show RB w12 w12.heap.size (some ⟨g12, 0, none⟩) T from ⟨by simp [by8], fun _ => ⟨g12, 0, rfl, (Mq.out.blk []).lt, fun j u hu => by rw [(Mq.out.blk []).cell, Nat.zero_add]; simpa [b8a] using hu⟩⟩)
      clear hb
      go_wp2_with fail
      refine (HSM.out _ _ _ (HR2.out _ Mq.out.bel) HRT.out).mono ?_
      rintro e w13 ⟨rfl, hb⟩
      have Mq := Lib.hid (Mq.out.below hb)
      clear hb HR1 HR2 HRP HSM HPT HRT HCT
      cases R
      · (obtain rfl : 5 = ev := HEV.out); go_wp2; go_ret; exact ⟨rfl, Mq.out.bel⟩
      · (obtain rfl : 0 = ev := HEV.out); go_wp2; go_ret; exact ⟨rfl, Mq.out.bel⟩
    · skip
      go_simp; generalize hwq : World.alloc _ _ = wq2; obtain ⟨g12, hg12, mq⟩ := Mq.out.newX hwq; rw [hg12]; have Mq := Lib.hid mq; clear hwq hg12 mq
      refine hK.out _ _ (by first | exact (HCT.out _ [] _ Mq.out).1 | exact (HCT.out _ [_] _ Mq.out).1) (fun hHeld => ?_)
      clear hK K
      refine wpAnyH_ready (rs := [3]) (by kernel_rfl) (by simp) ?_
      refine (AllReadyH.cons rfl (fun K hK => ?_) AllReadyH.nil)
      go_simp
      (with_reducible refine (HRP.out _ _ _ (by first | exact (HCT.out _ [] _ Mq.out).2 | exact (HCT.out _ [_] _ Mq.out).2) _ _ (HPT.out _ _ _ _ _ _ HN.out Mq.out)).mono ?_); rintro e wq ⟨rfl, hb⟩; have Mq := Lib.hid (Mq.out.below hb); clear hb
      go_wp2_with fail
      refine hK.out _ _ (by first | exact (HCT.out _ [] _ Mq.out).1 | exact (HCT.out _ [_] _ Mq.out).1) (fun hHeld => ?_)
      clear hK K
      refine wpAnyH_ready (rs := [5]) (by kernel_rfl) (by simp) ?_
      refine (AllReadyH.cons rfl (fun K hK => ?_) AllReadyH.nil)
      refine step_store_row rfl _ _ _ rfl g12 (b8a T) rfl rfl 27 _ (Mq.out.blk []) (info_k TL.out) (y32_k TL.out) (b8a_one T) ?_; have Mq := Lib.hid (Mst.setRow (bl := []) [] Mq.out (b8a T))
      refine hK.out _ _ (by first | exact (HCT.out _ [] _ Mq.out).1 | exact (HCT.out _ [_] _ Mq.out).1) (fun hHeld => ?_)
      clear hK K
      refine wpAnyH_done (by kernel_rfl) ?_ _
      clear hHeld Mr
      go_wp2_with fail
      refine (known06 _).mono ?_
      rintro e w12 ⟨rfl, hb⟩
      have Mq := Lib.hid (Mq.out.below hb)
      have HRT := Lib.hid (show RB w12 w12.heap.size (some ⟨g12, 0, none⟩) T from ⟨by simp [by8], fun _ => ⟨g12, 0, rfl, (Mq.out.blk []).lt, fun j u hu => by rw [(Mq.out.blk []).cell, Nat.zero_add]; simpa [b8a] using hu⟩⟩)
      clear hb
      go_wp2_with fail
      refine (HSM.out _ _ _ (HR2.out _ Mq.out.bel) HRT.out).mono ?_
      rintro e w13 ⟨rfl, hb⟩
      have Mq := Lib.hid (Mq.out.below hb)
      clear hb HR1 HR2 HRP HSM HPT HRT HCT
      cases R
      · (obtain rfl : 5 = ev := HEV.out); go_wp2; go_ret; exact ⟨rfl, Mq.out.bel⟩
      · (obtain rfl : 0 = ev := HEV.out); go_wp2; go_ret; exact ⟨rfl, Mq.out.bel⟩
  · have HNC := Lib.hid hcl
    have hri := fun w => right05_any i r x s w
    rw [decide_eq_false hcl] at hri
    have HRI := Lib.hid hri
    have K0 := Lib.hid (HCL.out _ _ _ (Mq.out.below (Below.refl _ _).drew))
    clear hcl hri
    go_upto_region 3 with fail
    refine wp_region_held_drew (S := fun w' => w'.cell? ⟨W.heap.size, 0, none⟩ = some (.int .i64 i) ∧ w'.cell? ⟨W.heap.size, 1, none⟩ = some (.int .i64 r) ∧ w'.cell? ⟨W.heap.size, 2, none⟩ = some (.int .i64 x) ∧ w'.cell? ⟨W.heap.size, 3, none⟩ = some (.int .i64 s)) (by kernel_rfl) ?_ (fun hHeld => ?_)
    · exact K0.out
    generalize hw7 : World.drew _ = w7 at hHeld ⊢
    have Mq := Lib.hid (show Mst W w7 ([] ++ [_]) [fewRow A' n c' qs] from hw7 ▸ Mq.out.below (Below.refl _ _).drew)
    clear hw7
    refine wpAnyH_take (i := 0) (v := ?_) rfl (by kernel_rfl) (by kernel_rfl) (by kernel_rfl) (fun _ _ _ h => h) (Or.inl ⟨by rfl, ?_⟩) (by assumption) ?_
    rotate_left
    · intro w hSw; (try dsimp only at hSw); go_split_ands; go_simp; with_reducible rfl
    change wpAnyH _ _ _ _ _ _ _ (Act.put _ (some 20) _) _
    simp only [Act.put, List.setIfInBounds_toArray, List.set_cons_zero, List.set_cons_succ, Array.toArray_toList]
    refine wpAnyH_take (i := 2) (v := ?_) rfl (by kernel_rfl) (by kernel_rfl) (by kernel_rfl) (fun _ _ _ h => h) (Or.inl ⟨by rfl, ?_⟩) (by assumption) ?_
    rotate_left
    · intro w hSw; (try dsimp only at hSw); go_split_ands; go_simp; with_reducible rfl
    change wpAnyH _ _ _ _ _ _ _ (Act.put _ (some 22) _) _
    simp only [Act.put, List.setIfInBounds_toArray, List.set_cons_zero, List.set_cons_succ, Array.toArray_toList]
    refine wpAnyH_take (i := 4) (v := ?_) rfl (by kernel_rfl) (by kernel_rfl) (by kernel_rfl) (fun _ _ _ h => h) (Or.inl ⟨by rfl, ?_⟩) (by assumption) ?_
    rotate_left
    · intro w hSw; (try dsimp only at hSw); go_split_ands; go_simp; with_reducible rfl
    change wpAnyH _ _ _ _ _ _ _ (Act.put _ (some 24) _) _
    simp only [Act.put, List.setIfInBounds_toArray, List.set_cons_zero, List.set_cons_succ, Array.toArray_toList]
    refine wpAnyH_take (i := 5) (v := ?_) rfl (by kernel_rfl) (by kernel_rfl) (by kernel_rfl) (fun _ _ _ h => h) (Or.inl ⟨by rfl, ?_⟩) (by assumption) ?_
    rotate_left
    · intro w hSw; (try dsimp only at hSw); go_split_ands; go_simp; with_reducible rfl
    change wpAnyH _ _ _ _ _ _ _ (Act.put _ (some 25) _) _
    simp only [Act.put, List.setIfInBounds_toArray, List.set_cons_zero, List.set_cons_succ, Array.toArray_toList]
    refine wpAnyH_ready (rs := [1]) (by kernel_rfl) (by simp) ?_
    refine (AllReadyH.cons rfl (fun K hK => ?_) AllReadyH.nil)
    go_simp
    (with_reducible refine (HNW.out _ (HR1.out _ Mq.out.bel)).mono ?_); rintro e wq ⟨gk, rfl, hk, hb⟩; have Mq := Lib.hid (Mq.out.below hb); clear hb hk
    go_wp2_with fail
    refine hK.out _ _ (by exact HCL.out _ _ _ Mq.out) (fun hHeld => ?_)
    clear hK K
    refine wpAnyH_ready (rs := [3]) (by kernel_rfl) (by simp) ?_
    refine (AllReadyH.cons rfl (fun K hK => ?_) AllReadyH.nil)
    go_simp
    (with_reducible refine (to05_any _ _ _ _ _).mono ?_); rintro e wq ⟨rfl, hb⟩; have Mq := Lib.hid (Mq.out.below hb); clear hb
    go_wp2_with fail
    refine hK.out _ _ (by exact HCL.out _ _ _ Mq.out) (fun hHeld => ?_)
    clear hK K
    refine wpAnyH_ready (rs := [6]) (by kernel_rfl) (by simp) ?_
    refine (AllReadyH.cons rfl (fun K hK => ?_) AllReadyH.nil)
    go_simp
    (with_reducible refine (HPB.out _ _ HNC.out _ _ _).mono ?_); rintro e wq ⟨rfl, hb⟩; have Mq := Lib.hid (Mq.out.below hb); clear hb
    go_wp2_with fail
    refine hK.out _ _ (by exact HCL.out _ _ _ Mq.out) (fun hHeld => ?_)
    clear hK K
    refine wpAnyH_take (i := 7) (v := ?_) rfl (by kernel_rfl) (by kernel_rfl) (by kernel_rfl) (fun _ _ _ h => h) (Or.inl ⟨by rfl, ?_⟩) (by assumption) ?_
    rotate_left
    · intro w hSw; (try dsimp only at hSw); go_split_ands; go_simp; with_reducible rfl
    change wpAnyH _ _ _ _ _ _ _ (Act.put _ (some 10) _) _
    simp only [Act.put, List.setIfInBounds_toArray, List.set_cons_zero, List.set_cons_succ, Array.toArray_toList]
    refine wpAnyH_done (by kernel_rfl) ?_ _
    have k0 := HCL.out _ _ _ Mq.out
    go_wp2_with fail
    refine (HRI.out _).mono ?_
    rintro e w5 ⟨rfl, hb⟩
    have Mq := Lib.hid (Mq.out.below hb)
    clear hb k0 hHeld K0
    go_wp2_with fail
    refine (known06 _).mono ?_
    rintro e w6 ⟨rfl, hb⟩
    have Mq := Lib.hid (Mq.out.below hb)
    clear hb
    go_wp2
    go_ret
    exact ⟨rfl, Mq.out.bel⟩
theorem contract_tokenProves (W : World) (v0 v1 v2 v3 : Value) (a0 : ∃ r : Rw, v0 = r.v ∧ r.ok .u8 W) (a1 : ∃ zs : List Int, v1 = .agg (zs.map (Value.int .i64)).toArray ∧ zs.length = 4 ∧ ∀ z ∈ zs, in64 z) (a2 : ∃ r : Rw, v2 = r.v ∧ r.ok .u8 W)
    (a3 : ∃ A c, ∃ rows : List Rw, v3 = .slice A rows.length c ∧ rows.length ≤ c ∧ c ≤ maxLen ∧ Rd W W.heap.size 1 A rows.length (rows.map Rw.v) ∧ ∀ x ∈ rows, x.ok .u8 W) :
    Calls Try.prog 4 #[v0, v1, v2, v3] W fun e W' => e = .returned (.bool true) ∧ Below W.heap.size W W' := by
  obtain ⟨r, rfl, hr⟩ := a0
  obtain ⟨zs, rfl, hz, _⟩ := a1
  obtain ⟨s, rfl, hs⟩ := a2
  obtain ⟨A, c, rows, rfl, h1, h2, h3, h4⟩ := a3
  obtain ⟨i, y, x, u, rfl⟩ : ∃ i r x s, zs = [i, r, x, s] := by
    match zs, hz with
    | [i, r, x, s], _ => exact ⟨i, r, x, s, rfl⟩
  obtain ⟨ps, e1, e2, e3⟩ := rows_pt rows h4
  rw [← e1, ← e2] at h3
  rw [← e2] at h1 ⊢
  obtain ⟨l, e, g1, g2⟩ := rw_pt hr
  obtain ⟨k, e', g1', g2'⟩ := rw_pt hs
  rw [e, e']
  exact tokenProves_main W r.A s.A A r.c s.c c l k i y x u g1 g2 g1' g2' ps ⟨h3, fun p hp => (e3 p hp).1⟩ (fun p hp => (e3 p hp).2) (by unfold maxLen at h2; omega)
end Go.Proofs.Ytghcdffpplimoaa
