/-
  vigillaw06.TokenMakes returns true, whatever it is called with. Conditions: none but that the slices can be read.
-/
import Derived.Test.YtghcdffpplimoaaTk8
import Derived.Test.YtghcdffpplimoaaTk0
import Derived.Test.YtghcdffpplimoaaCl6
import Derived.Deep.DeepCutAuto
namespace Go.Proofs.Ytghcdffpplimoaa
set_option linter.unusedVariables false
set_option linter.unusedSimpArgs false
open Go.RowKit

abbrev fewRowM (A : Option Addr) (N c : Nat) (qs : List Pt) : Ro := ⟨26, 1, .slice A N c, N, qs.map Pt.v⟩
theorem eqY36M (w : World) : (binOp .eql 78 (.agg Y36) (.agg Y36)).run Try.prog w = .ok (.bool true) w := by kernel_rfl
theorem eq4cM (i r x s : Int) (w : World) : (binOp .eql 30 (.agg #[.int .i64 i, .int .i64 r, .int .i64 x, .int .i64 s]) (.agg #[.int .i64 i, .int .i64 r, .int .i64 x, .int .i64 s])).run Try.prog w = .ok (.bool true) w := by go_simp
theorem b8_rbM {w : World} {g : Nat} {t : TypeId} {l : List UInt8} (h : Bk w g t (b8a l)) : RB w w.heap.size (some ⟨g, 0, none⟩) l :=
  ⟨by simp [by8], fun _ => ⟨g, 0, rfl, h.lt, fun j u hu => by rw [h.cell, Nat.zero_add]; simpa [b8a] using hu⟩⟩
theorem rd_of_rb {w : World} {B n : Nat} {A : Option Addr} {l : List UInt8} (h : RB w B A l) (hn : l.length = n) : Rd w B 1 A n (by8 l) := by
  subst hn
  exact h
theorem Mst.rbX {W w : World} {bl : Bl} {ow : List Ro} (h : Mst W w bl ow) {e n c : Nat} {A : Option Addr} {l : List UInt8} (hm : (⟨e, 1, .slice A n c, n, by8 l⟩ : Ro) ∈ ow) (hn : l.length = n) : RB w w.heap.size A l := by
  have := own_rd (h.own _ hm)
  rw [← hn] at this
  exact this
/-- A proof in new memory. -/
def SecM (W : World) (S : List UInt8) (s11 : Value) (w : World) : Prop := ∃ g, s11 = .pointer (some ⟨g, 0, none⟩) ∧ Mst W w [(g, 27, b8a S)] []
set_option maxRecDepth 100000 in
set_option maxHeartbeats 1000000 in
/-- A token of nothing does not hold. -/
theorem holds_y36 (w : World) (gk : Nat) : Calls Try.prog 40 #[.pointer (some ⟨gk, 0, none⟩), .agg Y36] w fun e w' => e = .returned (.bool false) ∧ Below w.heap.size w w' := by
  have HMK := Lib.hid (fun w' => make_bad w' gk 0 0 0 0 (by unfold clOk; omega))
  have M1 := Lib.hid ((Mst.start w).new 78 Y36)
  have k0 := (M1.out.blk []).cell 0
  have k1 := (M1.out.blk []).cell 1
  have k2 := (M1.out.blk []).cell 2
  have k3 := (M1.out.blk []).cell 3
  simp only [List.getElem?_toArray, List.getElem?_cons_zero, List.getElem?_cons_succ] at k0 k1 k2 k3
  go_enter Try.func40, Try.ntmps40
  go_wp2_with fail
  refine (HMK.out _).mono ?_
  rintro e w1 ⟨rfl, hb⟩
  have Mq := Lib.hid (M1.out.below hb)
  clear hb k0 k1 k2 k3 M1
  go_upto_region 2 with (first | refine wpList_store_row rfl _ _ _ rfl w1.heap.size Y36 rfl rfl 78 _ (Bk.mk_ _ _ _) info_y36 rfl y36_one ?_)
  have Mq := Lib.hid (Mst.setRow (bl := []) [] (Mq.out.new 78 Y36) Y36).drew
  refine wp_region_held_drew (S := fun _ => True) (by kernel_rfl) ?_ (fun hHeld => ?_)
  · trivial
  generalize World.drew _ = w2 at Mq ⊢
  refine wpAnyH_take (i := 0) (v := ?_) rfl (by kernel_rfl) (by kernel_rfl) (by kernel_rfl) (fun _ _ _ h => h) (Or.inl ⟨by rfl, ?_⟩) (by assumption) ?_
  rotate_left
  · intro w hSw; (try dsimp only at hSw); go_split_ands; go_simp; with_reducible rfl
  change wpAnyH _ _ _ _ _ _ _ (Act.put _ (some 14) _) _
  simp only [Act.put, List.setIfInBounds_toArray, List.set_cons_zero, List.set_cons_succ, Array.toArray_toList]
  refine wpAnyH_take (i := 1) (v := ?_) rfl (by kernel_rfl) (by kernel_rfl) (by kernel_rfl) (fun _ _ _ h => h) (Or.inl ⟨by rfl, ?_⟩) (by assumption) ?_
  rotate_left
  · intro w hSw; (try dsimp only at hSw); go_split_ands; go_simp; with_reducible rfl
  change wpAnyH _ _ _ _ _ _ _ (Act.put _ (some 15) _) _
  simp only [Act.put, List.setIfInBounds_toArray, List.set_cons_zero, List.set_cons_succ, Array.toArray_toList]
  refine wpAnyH_take (i := 2) (v := ?_) rfl (by kernel_rfl) (by kernel_rfl) (by kernel_rfl) (fun _ _ _ h => h) (Or.inl ⟨by rfl, ?_⟩) (by assumption) ?_
  rotate_left
  · intro w hSw; (try dsimp only at hSw); go_split_ands; go_simp; with_reducible rfl
  change wpAnyH _ _ _ _ _ _ _ (Act.put _ (some 16) _) _
  simp only [Act.put, List.setIfInBounds_toArray, List.set_cons_zero, List.set_cons_succ, Array.toArray_toList]
  refine wpAnyH_take (i := 3) (v := undef) rfl (by kernel_rfl) (by kernel_rfl) (by kernel_rfl) (fun _ _ _ h => h) (Or.inr ⟨by rfl, rfl⟩) (by assumption) ?_
  change wpAnyH _ _ _ _ _ _ _ (Act.put _ (some 17) _) _
  simp only [Act.put, List.setIfInBounds_toArray, List.set_cons_zero, List.set_cons_succ, Array.toArray_toList]
  refine wpAnyH_take (i := 4) (v := undef) rfl (by kernel_rfl) (by kernel_rfl) (by kernel_rfl) (fun _ _ _ h => h) (Or.inr ⟨by rfl, rfl⟩) (by assumption) ?_
  change wpAnyH _ _ _ _ _ _ _ (Act.put _ (some 18) _) _
  simp only [Act.put, List.setIfInBounds_toArray, List.set_cons_zero, List.set_cons_succ, Array.toArray_toList]
  refine wpAnyH_take (i := 5) (v := undef) rfl (by kernel_rfl) (by kernel_rfl) (by kernel_rfl) (fun _ _ _ h => h) (Or.inr ⟨by rfl, rfl⟩) (by assumption) ?_
  change wpAnyH _ _ _ _ _ _ _ (Act.put _ (some 19) _) _
  simp only [Act.put, List.setIfInBounds_toArray, List.set_cons_zero, List.set_cons_succ, Array.toArray_toList]
  refine wpAnyH_take (i := 6) (v := undef) rfl (by kernel_rfl) (by kernel_rfl) (by kernel_rfl) (fun _ _ _ h => h) (Or.inr ⟨by rfl, rfl⟩) (by assumption) ?_
  change wpAnyH _ _ _ _ _ _ _ (Act.put _ (some 20) _) _
  simp only [Act.put, List.setIfInBounds_toArray, List.set_cons_zero, List.set_cons_succ, Array.toArray_toList]
  refine wpAnyH_take (i := 7) (v := undef) rfl (by kernel_rfl) (by kernel_rfl) (by kernel_rfl) (fun _ _ _ h => h) (Or.inr ⟨by rfl, rfl⟩) (by assumption) ?_
  change wpAnyH _ _ _ _ _ _ _ (Act.put _ (some 21) _) _
  simp only [Act.put, List.setIfInBounds_toArray, List.set_cons_zero, List.set_cons_succ, Array.toArray_toList]
  refine wpAnyH_take (i := 8) (v := ?_) rfl (by kernel_rfl) (by kernel_rfl) (by kernel_rfl) (fun _ _ _ h => h) (Or.inl ⟨by rfl, ?_⟩) (by assumption) ?_
  rotate_left
  · intro w hSw; (try dsimp only at hSw); go_split_ands; go_simp; with_reducible rfl
  change wpAnyH _ _ _ _ _ _ _ (Act.put _ (some 22) _) _
  simp only [Act.put, List.setIfInBounds_toArray, List.set_cons_zero, List.set_cons_succ, Array.toArray_toList]
  refine wpAnyH_take (i := 9) (v := ?_) rfl (by kernel_rfl) (by kernel_rfl) (by kernel_rfl) (fun _ _ _ h => h) (Or.inl ⟨by rfl, ?_⟩) (by assumption) ?_
  rotate_left
  · intro w hSw; (try dsimp only at hSw); go_split_ands; go_simp; with_reducible rfl
  change wpAnyH _ _ _ _ _ _ _ (Act.put _ (some 4) _) _
  simp only [Act.put, List.setIfInBounds_toArray, List.set_cons_zero, List.set_cons_succ, Array.toArray_toList]
  refine wpAnyH_done (by kernel_rfl) ?_ _
  go_wp2
  go_ret
  exact ⟨rfl, Mq.out.bel⟩
set_option maxRecDepth 100000 in
set_option maxHeartbeats 6400000 in
theorem tokenMakes_main (W : World) (A1 A3 : Option Addr) (c1 c3 : Nat) (l1 : List UInt8) (i r x s : Int) (h1 : RB W W.heap.size A1 l1) (d1 : l1.length ≤ c1 ∧ c1 ≤ 9223372036854775807)
    (ps : List Pt) (hp : Pts W A3 ps) (hpc : ∀ p ∈ ps, p.l.length ≤ p.c ∧ p.c ≤ 9223372036854775807) (hpn : ps.length ≤ 9223372036854775807) :
    Calls Try.prog 9 #[.slice A1 l1.length c1, .agg #[.int .i64 i, .int .i64 r, .int .i64 x, .int .i64 s], .slice A3 ps.length c3] W fun e W' => e = .returned (.bool true) ∧ Below W.heap.size W W' := by
  obtain ⟨k, k1, r1, k3, -, HC1⟩ := cut_ex6 70 h1 d1 (by decide)
  have HR1 := Lib.hid (fun w' (hb : Below W.heap.size W w') => RB.keep r1 hb)
  have hfw := fun w' (hb : Below W.heap.size W w') => few06_any w' A3 c3 ps (hp.stay hb) hpc hpn
  have hq1 : ∀ q ∈ fewP 4 40 ps, RB W W.heap.size q.A q.l := fewP_old hp.2
  have hq2 : ∀ q ∈ fewP 4 40 ps, q.l.length ≤ 1000 := fun q hq => Nat.le_trans (fewP_le 4 40 ps q hq) (by decide)
  have hq3 : (fewP 4 40 ps).length ≤ 90 := by rw [fewP_len]; omega
  obtain ⟨qs, hqs⟩ : ∃ qs, fewP 4 40 ps = qs := ⟨_, rfl⟩
  simp only [hqs] at hfw hq1 hq2 hq3
  obtain ⟨KT, hKT⟩ := rsum_ex
  have HMT := Lib.hid hKT.make
  have hnw := fun w h => new_any w A1 c1 k h (by omega)
  obtain ⟨n, hN⟩ : ∃ n, qs.length = n := ⟨_, rfl⟩
  have HPT := Lib.hid (show ∀ w' bl ow A c, Mst W w' bl (fewRowM A n c qs :: ow) → Pts w' A qs from fun w' bl ow A c h => by
    have hr := own_rd (h.row [])
    rw [← hN] at hr
    exact ⟨hr, fun q hq => RB.keep (hq1 q hq) h.bel⟩)
  obtain ⟨N1, e1⟩ : ∃ n, l1.length = n := ⟨_, rfl⟩
  obtain ⟨N3, e3⟩ : ∃ n, ps.length = n := ⟨_, rfl⟩
  obtain ⟨M1, f1⟩ : ∃ n, k.length = n := ⟨_, rfl⟩
  simp only [e1, e3, f1, hN] at HC1 hnw hfw ⊢
  have HC1 := Lib.hid HC1
  have HNW := Lib.hid hnw
  have HFW := Lib.hid hfw
  have HKT := Lib.hid hKT
  have F1 := Lib.hid f1
  have FN := Lib.hid hN
  have HQ2 := Lib.hid hq2
  have hki := hKT.infL
  have hM1 : M1 ≤ 70 := by omega
  have hn90 : n ≤ 90 := by omega
  have M0 := Lib.hid ((Mst.start W).new 23 #[.int .i64 i, .int .i64 r, .int .i64 x, .int .i64 s])
  have HCL := Lib.hid (show ∀ w' bl ow, Mst W w' (bl ++ [(W.heap.size, 23, #[.int .i64 i, .int .i64 r, .int .i64 x, .int .i64 s])]) ow → w'.cell? ⟨W.heap.size, 0, none⟩ = some (.int .i64 i) ∧ w'.cell? ⟨W.heap.size, 1, none⟩ = some (.int .i64 r) ∧ w'.cell? ⟨W.heap.size, 2, none⟩ = some (.int .i64 x) ∧ w'.cell? ⟨W.heap.size, 3, none⟩ = some (.int .i64 s) from
    fun w' bl ow h => ⟨(h.blk bl).cell 0, (h.blk bl).cell 1, (h.blk bl).cell 2, (h.blk bl).cell 3⟩)
  clear h1 d1 hp hpc hpn k1 r1 k3 hfw hq1 hq2 hq3 hqs hKT hN e1 e3 f1 hnw
  obtain ⟨tk, e0, HMK, HTK⟩ : ∃ (tk : Array Value) (e0 : Int), Hid (∀ w' gk, KeyW w' gk k → Calls Try.prog 50 #[.pointer (some ⟨gk, 0, none⟩), .agg #[.int .i64 i, .int .i64 r, .int .i64 x, .int .i64 s]] w' fun e w2 => e = .returned (.tuple #[.agg tk, .int .i64 e0]) ∧ Below w'.heap.size w' w2) ∧
      Hid ((¬ clOk i r x s ∧ tk = Y36 ∧ e0 = 10) ∨ (clOk i r x s ∧ ∃ S, S.length = 32 ∧ secB k i r x s = S ∧ tk = tkc i r x s S ∧ e0 = 0)) := by
    by_cases hcl : clOk i r x s
    · exact ⟨_, _, Lib.hid fun w' gk hk => make_ok w' gk k hk (by have := F1.out; omega) i r x s hcl, Lib.hid (.inr ⟨hcl, _, secB_len k i r x s, rfl, rfl, rfl⟩)⟩
    · exact ⟨_, _, Lib.hid fun w' gk hk => make_bad w' gk i r x s hcl, Lib.hid (.inl ⟨hcl, rfl, rfl⟩)⟩
  have HI := Lib.hid (show (Try.prog.info? 78).map (·.size) = some tk.size ∧ Y36.size = tk.size ∧ tk.all (·.oneCell') = true from by
    rcases HTK.out with ⟨_, h, _⟩ | ⟨_, S, hS, _, h, _⟩
    · rw [h]; exact ⟨info_y36, rfl, y36_one⟩
    · rw [h]; exact ⟨info_tok hS, y36_k hS, tkc_one _ _ _ _ _⟩)
  go_enter Try.func9, Try.ntmps9
  go_wp2_with fail
  refine (HC1.out _).mono ?_
  rintro e w1 ⟨rfl, hw1⟩
  have Mq := Lib.hid (show Mst W w1 ([] ++ [_]) [] from hw1 ▸ M0.out)
  clear hw1 HC1
  go_wp2_with fail
  refine (HFW.out _ Mq.out.bel).mono ?_
  rintro e w2 ⟨A', c', rfl, m⟩
  have Mq := Lib.hid (show Mst W w2 ([] ++ [_]) [fewRowM A' n c' qs] from (Mq.out.join m))
  clear m HFW
  go_wp2_with fail
  refine (HMT.out _).mono ?_
  rintro e w3 ⟨rfl, hb⟩
  have Mq := Lib.hid (Mq.out.below hb)
  clear hb
  go_upto_region 4 with (first | refine wpList_store_row rfl _ _ _ rfl w3.heap.size KT rfl rfl 61 _ (Bk.mk_ _ _ _) HKT.out.inf HKT.out.z72 HKT.out.one ?_)
  generalize hw4 : World.setRow _ _ _ = w4
  have Mq := Lib.hid (show Mst W w4 ([(w3.heap.size, 61, KT)] ++ [_]) [fewRowM A' n c' qs] from (Mst.setRow (bl := []) [] (Mq.out.new 61 Z72) KT).toV hw4 rfl)
  clear hw4
  go_wp2_with fail
  refine (HNW.out _ (HR1.out _ Mq.out.bel)).mono ?_
  rintro e w5 ⟨gk, rfl, hk, hb⟩
  have Mq := Lib.hid (Mq.out.below hb)
  have HK := Lib.hid hk
  clear hb hk HNW
  have k0 := HCL.out _ _ _ Mq.out
  go_wp2_with fail
  refine (to05_any _ _ _ _ _).mono ?_
  rintro e w6 ⟨rfl, hb⟩
  have Mq := Lib.hid (Mq.out.below hb)
  have HK := Lib.hid (HK.out.keep hb)
  clear hb k0
  go_wp2_with fail
  refine (HMK.out _ _ HK.out).mono ?_
  rintro e w7 ⟨rfl, hb⟩
  have Mq := Lib.hid (Mq.out.below hb)
  have HK := Lib.hid (HK.out.keep hb)
  clear hb HMK
  go_upto_region 6 with (first | refine wpList_store_row rfl _ _ _ rfl w7.heap.size tk rfl rfl 78 _ (Bk.mk_ _ _ _) HI.out.1 HI.out.2.1 HI.out.2.2 ?_)
  generalize hw8 : World.setRow _ _ _ = w8
  have Mz := Lib.hid ((Mst.setRow (bl := []) [] ((Mst.start w7).new 78 Y36) tk).toV hw8 rfl)
  have HK := Lib.hid (HK.out.keep Mz.out.bel)
  have Mq := Lib.hid (show Mst W w8 ([(w7.heap.size, 78, tk), (w3.heap.size, 61, KT)] ++ [_]) [fewRowM A' n c' qs] from (Mst.setRow (bl := []) [] (Mq.out.new 78 Y36) tk).toV hw8 rfl)
  clear hw8 Mz
  have k0 := HCL.out _ _ _ Mq.out
  go_wp2_with fail
  refine (to05_any _ _ _ _ _).mono ?_
  rintro e w9 ⟨rfl, hb⟩
  have Mq := Lib.hid (Mq.out.below hb)
  have HK := Lib.hid (HK.out.keep hb)
  clear hb k0
  go_wp2_with fail
  refine (make_nil _ _ _ _ _).mono ?_
  rintro e w10 ⟨rfl, hb⟩
  have Mq := Lib.hid (Mq.out.below hb)
  have HK := Lib.hid (HK.out.keep hb)
  clear hb
  go_upto_region 7 with (first | refine wpList_store_row rfl _ _ _ rfl w10.heap.size Y36 rfl rfl 78 _ (Bk.mk_ _ _ _) info_y36 rfl y36_one ?_)
  generalize hw11 : World.setRow _ _ _ = w11
  have Mz := Lib.hid ((Mst.setRow (bl := []) [] ((Mst.start w10).new 78 Y36) Y36).toV hw11 rfl)
  have HK := Lib.hid (HK.out.keep Mz.out.bel)
  have Mq := Lib.hid (Mq.out.below Mz.out.bel)
  clear hw11 Mz
  have k0 := HCL.out _ _ _ Mq.out
  rcases HTK.out with ⟨hcl, ht1, ht2⟩ | ⟨hcl, S, hSl, hS, ht1, ht2⟩
  · subst ht1 ht2
    have HNC := Lib.hid hcl
    have hri := fun w => right05_any i r x s w
    rw [decide_eq_false hcl] at hri
    have HRI := Lib.hid hri
    clear hcl hri HTK HI
    go_wp2_with fail
    refine (HRI.out _).mono ?_
    rintro e w12 ⟨rfl, hb⟩
    have Mq := Lib.hid (Mq.out.below hb)
    clear hb k0
    go_wp2_with fail
    refine (known06 _).mono ?_
    rintro e w13 ⟨rfl, hb⟩
    have Mq := Lib.hid (Mq.out.below hb)
    clear hb
    go_wp2_with (first | refine wpList_loadG rfl _ _ rfl w7.heap.size 0 rfl Y36 _ (tkc_full (Mq.out.blk [])) Try.underlying78 rfl info_y36 ?_ | refine wpList_buildG rfl _ rfl _ (build_tok0 _) ?_ | refine wpList_binG rfl .eql _ _ _ _ rfl Y36 Y36 rfl rfl (by kernel_rfl) _ (eqY36M _) ?_)
    refine (holds_y36 _ _).mono ?_
    rintro e w14 ⟨rfl, hb⟩
    have Mq := Lib.hid (Mq.out.below hb)
    clear hb
    have k0 := HCL.out _ _ _ Mq.out
    go_wp2_with fail
    refine (to05_any _ _ _ _ _).mono ?_
    rintro e w15 ⟨rfl, hb⟩
    have Mq := Lib.hid (Mq.out.below hb)
    clear hb k0
    go_wp2_with fail
    refine (proves_bad _ _ _ _ _ _ HNC.out _ _ _ _ _ _).mono ?_
    rintro e w16 ⟨rfl, hb⟩
    have Mq := Lib.hid (Mq.out.below hb)
    clear hb
    go_wp2
    go_ret
    exact ⟨rfl, Mq.out.bel⟩
  · subst ht1 ht2
    have hri := fun w => right05_any i r x s w
    rw [decide_eq_true hcl] at hri
    have HRI := Lib.hid hri
    have HRS := Lib.hid (show ∀ w', Below W.heap.size W w' → Calls Try.prog 32 #[.agg KT, .slice A1 M1 c1, .agg #[.int .i64 i, .int .i64 r, .int .i64 x, .int .i64 s]] w' fun e w2 => e = .returned (.agg (b8a S)) ∧ Below w'.heap.size w' w2 from fun w' hb => by
      have := refsec_any KT HKT.out w' A1 c1 k (HR1.out w' hb) (by have := F1.out; omega) i r x s hcl
      rw [F1.out, hS] at this
      exact this)
    obtain ⟨T, hT⟩ : ∃ T, prvB S (qs.map Pt.l) = T := ⟨_, rfl⟩
    have hTl : T.length = 32 := by rw [← hT]; rfl
    obtain ⟨BB, hBB⟩ : ∃ B, clB i r x s ++ S = B := ⟨_, rfl⟩
    have hBl : BB.length = 41 := by rw [← hBB, List.length_append, clB_length, hSl]
    have hB9 : BB.take 9 = clB i r x s := by rw [← hBB]; exact List.take_left' (clB_length _ _ _ _)
    have hBd : BB.drop 9 = S := by rw [← hBB]; exact List.drop_left' (clB_length _ _ _ _)
    have hcp : clParse (BB.take 9) = ((i, r, x, s), 0) := by
      have h1 := parse9_clB i r x s [] hcl
      rw [List.append_nil] at h1
      rw [hB9, clParse_eq _ (by rw [clB_length]; omega), h1, if_neg (by rw [clB_length]; omega)]
    have HTB := Lib.hid (show ∀ w', Calls Try.prog 48 #[.agg (tkc i r x s S)] w' fun e w2 => ∃ A c, e = .returned (.tuple #[.slice A 41 c, .int .i64 0]) ∧ (41 ≤ c ∧ c ≤ 9223372036854775807) ∧ RB w2 w2.heap.size A BB ∧ Below w'.heap.size w' w2 from fun w' => by
      refine (tbytes_ok w' i r x s S hSl hcl).mono ?_
      rintro e w2 ⟨A, c, rfl, h1, h2, hn, hb⟩
      rw [hBB] at hn
      exact ⟨A, c, rfl, ⟨h1, h2⟩, hn.rb, hb⟩)
    have HPA := Lib.hid (show ∀ w' A c, RB w' w'.heap.size A BB → 41 ≤ c ∧ c ≤ 9223372036854775807 → Calls Try.prog 46 #[.slice A 41 c] w' fun e w2 => e = .returned (.tuple #[.agg (tkc i r x s S), .int .i64 0]) ∧ Below w'.heap.size w' w2 from fun w' A c hr hc => by
      have := tparse_41 w' A c BB hr hBl hc i r x s 0 hcp
      rw [if_pos rfl, hBd] at this
      exact this)
    have HRP := Lib.hid (show ∀ w' A' c' A c, RB w' w'.heap.size A' S → Pts w' A qs → Calls Try.prog 33 #[.agg KT, .slice A' 32 c', .slice A n c] w' fun e w2 => e = .returned (.agg (b8a T)) ∧ Below w'.heap.size w' w2 from fun w' A' c' A c h hpt => by
      have := refprove_any KT HKT.out w' A' c' S h (by omega) A c qs hpt (by rw [FN.out]; exact hn90) HQ2.out
      rw [hT, hSl, FN.out] at this
      exact this)
    have HPV := Lib.hid (show ∀ w' A c, Pts w' A qs → Calls Try.prog 52 #[.agg (tkc i r x s S), .slice A n c] w' fun e w2 => e = .returned (.agg (b8a T)) ∧ Below w'.heap.size w' w2 from fun w' A c hpt => by
      have := prove_any w' i r x s S hSl A c qs hpt (by rw [FN.out]; exact hn90) HQ2.out
      rw [hT, FN.out] at this
      exact this)
    have HPO := Lib.hid (show ∀ w' A A' c' c, KeyW w' gk k → RB w' w'.heap.size A' T → Pts w' A qs → Calls Try.prog 26 #[.pointer (some ⟨gk, 0, none⟩), .agg #[.int .i64 i, .int .i64 r, .int .i64 x, .int .i64 s], .slice A' 32 c', .slice A n c] w' fun e w2 => e = .returned (.int .i64 0) ∧ Below w'.heap.size w' w2 from fun w' A A' c' c hk ht hpt => by
      have := proves_ok w' gk k hk (by have := F1.out; omega) i r x s hcl A' c' T ht (by omega) A c qs hpt (by rw [FN.out]; exact hn90) HQ2.out true (by rw [hS, hT]; simp)
      rw [hTl, FN.out] at this
      exact this)
    have HHO := Lib.hid (show ∀ w', KeyW w' gk k → Calls Try.prog 40 #[.pointer (some ⟨gk, 0, none⟩), .agg (tkc i r x s S)] w' fun e w2 => e = .returned (.bool true) ∧ Below w'.heap.size w' w2 from fun w' hk => by
      have := holds_ok w' gk k hk (by have := F1.out; omega) i r x s S hSl hcl
      rw [decide_eq_true hS] at this
      exact this)
    have HRB := Lib.hid (fun w' => refbytes_any i r x s w' hcl)
    have HKY := Lib.hid (fun w' => tkey_any w' i r x s S hSl)
    have HKB := Lib.hid (show ∀ w' g2, KeyW w' g2 S → Calls Try.prog 36 #[.pointer (some ⟨g2, 0, none⟩)] w' fun e w2 => ∃ A c, e = .returned (.slice A 32 c) ∧ RB w2 w2.heap.size A S ∧ Below w'.heap.size w' w2 from fun w' g2 hk => by
      refine (kbytes_any w' g2 S hk (by omega)).mono ?_
      rintro e w2 ⟨v, rfl, hf⟩
      obtain ⟨A, c, rfl, -⟩ := own_form hf.own
      exact ⟨A, c, by rw [hSl], own_rd hf.own, hf.bel⟩)
    have HSS := Lib.hid (show ∀ w' A A' c c', RB w' w'.heap.size A S → RB w' w'.heap.size A' S → Calls Try.prog 21 #[.slice A 32 c, .slice A' 32 c'] w' fun e w2 => e = .returned (.bool true) ∧ Below w'.heap.size w' w2 from fun w' A A' c c' h1 h2 => by
      have := same_yes A A' c c' S w' h1 h2 (by unfold maxLen; omega)
      rw [hSl] at this
      exact this)
    have HSB := Lib.hid (show ∀ w' A A' c c' N, N = 41 → RB w' w'.heap.size A BB → RB w' w'.heap.size A' BB → Calls Try.prog 21 #[.slice A 41 c, .slice A' N c'] w' fun e w2 => e = .returned (.bool true) ∧ Below w'.heap.size w' w2 from fun w' A A' c c' N hN h1 h2 => by
      have := same_yes A A' c c' BB w' h1 h2 (by unfold maxLen; omega)
      rw [hBl] at this
      rw [hN]
      exact this)
    have SL := Lib.hid hSl
    have TL := Lib.hid hTl
    have BLn := Lib.hid hBl
    have HBB := Lib.hid hBB
    clear hcl hri HTK hS hSl hT hTl hBB hBl hB9 hBd hcp
    as_aux_lemma =>
      go_wp2_with fail
      refine (HRI.out _).mono ?_
      rintro e w12 ⟨rfl, hb⟩
      have Mq := Lib.hid (Mq.out.below hb)
      have HK := Lib.hid (HK.out.keep hb)
      clear hb k0 HRI
      have k0 := HCL.out _ _ _ Mq.out
      have k1 := (Mq.out.blk [_]).rangeL
      go_wp2_with (first | refine wpList_load_mid rfl _ _ rfl w3.heap.size 0 rfl KT.toList _ k1 Try.underlying61 rfl hki ?_)
      refine (HRS.out _ Mq.out.bel).mono ?_
      rintro e w13 ⟨rfl, hb⟩
      have Mq := Lib.hid (Mq.out.below hb)
      have HK := Lib.hid (HK.out.keep hb)
      clear hb k0 k1 HRS
      go_upto_region 10 with (first | refine wpList_store_row rfl _ _ _ rfl w13.heap.size (b8a S) rfl rfl 27 _ (Bk.mk_ _ _ _) (info_k SL.out) (y32_k SL.out) (b8a_one S) ?_)
      generalize hw14 : World.setRow _ _ _ = w14
      have Mz := Lib.hid ((Mst.setRow (bl := []) [] ((Mst.start w13).new 27 Y32) (b8a S)).toV hw14 rfl)
      have HK := Lib.hid (HK.out.keep Mz.out.bel)
      have Mq := Lib.hid ((Mst.setRow (bl := []) [] (Mq.out.new 27 Y32) (b8a S)).toV hw14 rfl)
      clear hw14 Mz
      go_wp2_with (first | refine wpList_loadG rfl _ _ rfl w7.heap.size 0 rfl (tkc i r x s S) _ (tkc_full (Mq.out.blk [_])) Try.underlying78 rfl (info_tok SL.out) ?_)
      refine (HTB.out _).mono ?_
      rintro e w15 ⟨A15, c15, rfl, hc15, hrx, hb⟩
      have Mq := Lib.hid (Mq.out.below hb)
      have HK := Lib.hid (HK.out.keep hb)
      have HRX := Lib.hid hrx
      have HC15 := Lib.hid hc15
      clear hb hrx hc15 HTB
      go_wp2_with fail
      refine (HPA.out _ _ _ HRX.out HC15.out).mono ?_
      rintro e w16 ⟨rfl, hb⟩
      have Mq := Lib.hid (Mq.out.below hb)
      have HK := Lib.hid (HK.out.keep hb)
      have HRX := Lib.hid (RB.keep HRX.out hb)
      clear hb HPA HC15
      go_upto_region 12 with (first | refine wpList_store_row rfl _ _ _ rfl w16.heap.size (tkc i r x s S) rfl rfl 78 _ (Bk.mk_ _ _ _) (info_tok SL.out) (y36_k SL.out) (tkc_one _ _ _ _ _) ?_)
      generalize hw17 : World.setRow _ _ _ = w17
      have Mz := Lib.hid ((Mst.setRow (bl := []) [] ((Mst.start w16).new 78 Y36) (tkc i r x s S)).toV hw17 rfl)
      have HK := Lib.hid (HK.out.keep Mz.out.bel)
      have HRX := Lib.hid (RB.keep HRX.out Mz.out.bel)
      have Mq := Lib.hid ((Mst.setRow (bl := []) [] (Mq.out.new 78 Y36) (tkc i r x s S)).toV hw17 rfl)
      clear hw17 Mz
      have HB17 := Lib.hid Mq.out.bel
      have HW17 := Lib.hid (fun w' (hb : Below w17.heap.size w17 w') => Bsz HB17.out hb)
      have G16 := Lib.hid (fun w' (hb : Below w17.heap.size w17 w') => Bk.below (Mq.out.blk []) hb (Mq.out.blk []).lt)
      have G13 := Lib.hid (fun w' (hb : Below w17.heap.size w17 w') => Bk.below (Mq.out.blk [_]) hb (Mq.out.blk [_]).lt)
      have G7 := Lib.hid (fun w' (hb : Below w17.heap.size w17 w') => Bk.below (Mq.out.blk [_, _]) hb (Mq.out.blk [_, _]).lt)
      have G3 := Lib.hid (fun w' (hb : Below w17.heap.size w17 w') => Bk.below (Mq.out.blk [_, _, _]) hb (Mq.out.blk [_, _, _]).lt)
      have G0 := Lib.hid (fun w' (hb : Below w17.heap.size w17 w') => Bk.below (Mq.out.blk [_, _, _, _]) hb (Mq.out.blk [_, _, _, _]).lt)
      have HKK := Lib.hid (fun w' (hb : Below w17.heap.size w17 w') => HK.out.keep hb)
      have HRY := Lib.hid (fun w' (hb : Below w17.heap.size w17 w') => RB.keep HRX.out hb)
      have HPS := Lib.hid (fun w' (hb : Below w17.heap.size w17 w') => (HPT.out _ _ _ _ _ Mq.out).stay hb)
      have Mq := Lib.hid (Mst.start w17)
      clear HK HRX
      have hut : ∃ d, Try.prog.underlying 61 = some d ∧ d.isRow = true := ⟨_, Try.underlying61, rfl⟩
      obtain ⟨dt, hut, hdt⟩ := hut
      go_upto_region 12 with fail
      go_cut [19] (fun s19 wr => SecM w17 T s19 wr)
      case first =>
        refine wp_region_held_drew (S := fun w' => w'.rangeAt w3.heap.size 0 KT.toList) (by kernel_rfl) ?_ (fun hHeld => ?_)
        · exact (G3.out _ Mq.out.drew.bel).rangeL
        generalize hw9 : World.drew _ = w9 at hHeld ⊢
        have Mq := Lib.hid (Mq.out.drew.toV hw9 rfl)
        clear hw9
        refine wpAnyH_take (i := 0) rfl (by kernel_rfl) (by kernel_rfl) (by kernel_rfl) (fun _ _ _ h => h) (yieldsIf_load_mid (by rfl) _ _ rfl _ _ rfl _ _ (fun w hw => hw) hut hdt hki) (by assumption) ?_
        change wpAnyH _ _ _ _ _ _ _ (Act.put _ (some 84) _) _
        simp only [Act.put, List.setIfInBounds_toArray, List.set_cons_zero, List.set_cons_succ, Array.toArray_toList]
        refine wpAnyH_take (i := 1) (v := ?_) rfl (by kernel_rfl) (by kernel_rfl) (by kernel_rfl) (fun _ _ _ h => h) (Or.inl ⟨by rfl, ?_⟩) (by assumption) ?_
        rotate_left
        · intro w hSw; (try dsimp only at hSw); go_split_ands; go_simp; with_reducible rfl
        change wpAnyH _ _ _ _ _ _ _ (Act.put _ (some 85) _) _
        simp only [Act.put, List.setIfInBounds_toArray, List.set_cons_zero, List.set_cons_succ, Array.toArray_toList]
        refine wpAnyH_take (i := 2) (v := ?_) rfl (by kernel_rfl) (by kernel_rfl) (by kernel_rfl) (fun _ _ _ h => h) (Or.inl ⟨by rfl, ?_⟩) (by assumption) ?_
        rotate_left
        · intro w hSw; (try dsimp only at hSw); go_split_ands; go_simp; with_reducible rfl
        change wpAnyH _ _ _ _ _ _ _ (Act.put _ (some 86) _) _
        simp only [Act.put, List.setIfInBounds_toArray, List.set_cons_zero, List.set_cons_succ, Array.toArray_toList]
        refine wpAnyH_ready (rs := [3, 4]) (by kernel_rfl) (by simp) ?_
        refine (AllReadyH.cons rfl (fun K hK => ?_) (AllReadyH.cons rfl (fun K hK => ?_) AllReadyH.nil))
        · skip
          go_simp
          (with_reducible refine (HRP.out _ _ _ _ _ (b8_rbM (G13.out _ Mq.out.bel)) (HPS.out _ Mq.out.bel)).mono ?_); rintro e wq ⟨rfl, hb⟩; have Mq := Lib.hid (Mq.out.below hb); clear hb
          go_wp2_with fail
          refine hK.out _ _ (by exact (G3.out _ Mq.out.bel).rangeL) (fun hHeld => ?_)
          clear hK K
          refine wpAnyH_ready (rs := [4]) (by kernel_rfl) (by simp) ?_
          refine (AllReadyH.cons rfl (fun K hK => ?_) AllReadyH.nil)
          go_simp; generalize hwq : World.alloc _ _ = wq2; obtain ⟨g12, hg12, mq⟩ := Mq.out.newX hwq; rw [hg12]; have Mq := Lib.hid mq; clear hwq hg12 mq
          refine hK.out _ _ (by exact (G3.out _ Mq.out.bel).rangeL) (fun hHeld => ?_)
          clear hK K
          refine wpAnyH_ready (rs := [5]) (by kernel_rfl) (by simp) ?_
          refine (AllReadyH.cons rfl (fun K hK => ?_) AllReadyH.nil)
          refine step_store_row rfl _ _ _ rfl g12 (b8a T) rfl rfl 27 _ (Mq.out.blk []) (info_k TL.out) (y32_k TL.out) (b8a_one T) ?_; have Mq := Lib.hid (Mst.setRow (bl := []) [] Mq.out (b8a T))
          refine hK.out _ _ (by exact (G3.out _ Mq.out.bel).rangeL) (fun hHeld => ?_)
          clear hK K
          refine wpAnyH_done (by kernel_rfl) ?_ _
          go_wp2_with fail
          go_meet
          exact ⟨_, rfl, Mq.out⟩
        · skip
          go_simp; generalize hwq : World.alloc _ _ = wq2; obtain ⟨g12, hg12, mq⟩ := Mq.out.newX hwq; rw [hg12]; have Mq := Lib.hid mq; clear hwq hg12 mq
          refine hK.out _ _ (by exact (G3.out _ Mq.out.bel).rangeL) (fun hHeld => ?_)
          clear hK K
          refine wpAnyH_ready (rs := [3]) (by kernel_rfl) (by simp) ?_
          refine (AllReadyH.cons rfl (fun K hK => ?_) AllReadyH.nil)
          go_simp
          (with_reducible refine (HRP.out _ _ _ _ _ (b8_rbM (G13.out _ Mq.out.bel)) (HPS.out _ Mq.out.bel)).mono ?_); rintro e wq ⟨rfl, hb⟩; have Mq := Lib.hid (Mq.out.below hb); clear hb
          go_wp2_with fail
          refine hK.out _ _ (by exact (G3.out _ Mq.out.bel).rangeL) (fun hHeld => ?_)
          clear hK K
          refine wpAnyH_ready (rs := [5]) (by kernel_rfl) (by simp) ?_
          refine (AllReadyH.cons rfl (fun K hK => ?_) AllReadyH.nil)
          refine step_store_row rfl _ _ _ rfl g12 (b8a T) rfl rfl 27 _ (Mq.out.blk []) (info_k TL.out) (y32_k TL.out) (b8a_one T) ?_; have Mq := Lib.hid (Mst.setRow (bl := []) [] Mq.out (b8a T))
          refine hK.out _ _ (by exact (G3.out _ Mq.out.bel).rangeL) (fun hHeld => ?_)
          clear hK K
          refine wpAnyH_done (by kernel_rfl) ?_ _
          go_wp2_with fail
          go_meet
          exact ⟨_, rfl, Mq.out⟩
      case rest =>
        as_aux_lemma =>
          clear Mq HRP G3 hut hdt
          obtain ⟨g19, rfl, mq⟩ := hcut
          have Mq := Lib.hid mq
          have G19 := Lib.hid (fun w' bl ow (h : Mst w17 w' ((g19, 27, b8a T) :: bl) ow) => h.blk [])
          clear mq
          have hki1 := info_tokL (i := i) (r := r) (x := x) (s := s) SL.out
          have hki2 := info_kL SL.out
          have hki3 := info_kL TL.out
          have HSX := Lib.hid (show ∀ w', Below w17.heap.size w17 w' → Bk w' g19 27 (b8a T) → (w'.cell? ⟨w7.heap.size, 0, none⟩ = some (.int .i64 i) ∧ w'.cell? ⟨w7.heap.size, 1, none⟩ = some (.int .i64 r) ∧ w'.cell? ⟨w7.heap.size, 2, none⟩ = some (.int .i64 x) ∧ w'.cell? ⟨w7.heap.size, 3, none⟩ = some (.int .i64 s)) ∧ (w'.cell? ⟨W.heap.size, 0, none⟩ = some (.int .i64 i) ∧ w'.cell? ⟨W.heap.size, 1, none⟩ = some (.int .i64 r) ∧ w'.cell? ⟨W.heap.size, 2, none⟩ = some (.int .i64 x) ∧ w'.cell? ⟨W.heap.size, 3, none⟩ = some (.int .i64 s)) ∧ (w'.rangeAt w7.heap.size 4 (b8a S).toList ∧ w'.rangeAt w13.heap.size 0 (b8a S).toList ∧ w'.rangeAt w7.heap.size 0 (tkc i r x s S).toList ∧ w'.rangeAt w16.heap.size 0 (tkc i r x s S).toList ∧ w'.rangeAt g19 0 (b8a T).toList) from
            fun w' hb hg => ⟨tkc_cells (G7.out w' hb), ⟨(G0.out w' hb).cell 0, (G0.out w' hb).cell 1, (G0.out w' hb).cell 2, (G0.out w' hb).cell 3⟩, by have := tkc_range (G7.out w' hb); simpa [b8a] using this, tkc_full (G13.out w' hb), tkc_full (G7.out w' hb), tkc_full (G16.out w' hb), tkc_full hg⟩)
          have HE4 := Lib.hid (eq4cM i r x s)
          have HE5 := Lib.hid (eq32T S SL.out)
          have HE6 := Lib.hid (eq32T T TL.out)
          have HE7 := Lib.hid (eqTok i r x s S SL.out)
          go_upto_region 13 with fail
          refine wp_region_held_drew (S := fun w' => (w'.cell? ⟨w7.heap.size, 0, none⟩ = some (.int .i64 i) ∧ w'.cell? ⟨w7.heap.size, 1, none⟩ = some (.int .i64 r) ∧ w'.cell? ⟨w7.heap.size, 2, none⟩ = some (.int .i64 x) ∧ w'.cell? ⟨w7.heap.size, 3, none⟩ = some (.int .i64 s)) ∧ (w'.cell? ⟨W.heap.size, 0, none⟩ = some (.int .i64 i) ∧ w'.cell? ⟨W.heap.size, 1, none⟩ = some (.int .i64 r) ∧ w'.cell? ⟨W.heap.size, 2, none⟩ = some (.int .i64 x) ∧ w'.cell? ⟨W.heap.size, 3, none⟩ = some (.int .i64 s)) ∧ (w'.rangeAt w7.heap.size 4 (b8a S).toList ∧ w'.rangeAt w13.heap.size 0 (b8a S).toList ∧ w'.rangeAt w7.heap.size 0 (tkc i r x s S).toList ∧ w'.rangeAt w16.heap.size 0 (tkc i r x s S).toList ∧ w'.rangeAt g19 0 (b8a T).toList)) (by kernel_rfl) ?_ (fun hHeld => ?_)
          · exact HSX.out _ Mq.out.drew.bel (G19.out _ _ _ Mq.out.drew)
          generalize hw9 : World.drew _ = w9 at hHeld ⊢
          have Mq := Lib.hid (Mq.out.drew.toV hw9 rfl)
          clear hw9
          refine wpAnyH_ready (rs := [0]) (by kernel_rfl) (by simp) ?_
          refine (AllReadyH.cons rfl (fun K hK => ?_) AllReadyH.nil)
          go_simp
          (with_reducible refine (known06 _).mono ?_); rintro e wq ⟨rfl, hb⟩; have Mq := Lib.hid (Mq.out.below hb); clear hb
          go_wp2_with fail
          refine hK.out _ _ (by exact HSX.out _ Mq.out.bel (G19.out _ _ _ Mq.out)) (fun hHeld => ?_)
          clear hK K
          refine wpAnyH_take (i := 1) (v := ?_) rfl (by kernel_rfl) (by kernel_rfl) (by kernel_rfl) (fun _ _ _ h => h) (Or.inl ⟨by rfl, ?_⟩) (by assumption) ?_
          rotate_left
          · intro w hSw; (try dsimp only at hSw); go_split_ands; go_simp; with_reducible rfl
          change wpAnyH _ _ _ _ _ _ _ (Act.put _ (some 89) _) _
          simp only [Act.put, List.setIfInBounds_toArray, List.set_cons_zero, List.set_cons_succ, Array.toArray_toList]
          refine wpAnyH_take (i := 2) (v := ?_) rfl (by kernel_rfl) (by kernel_rfl) (by kernel_rfl) (fun _ _ _ h => h) (Or.inl ⟨by rfl, ?_⟩) (by assumption) ?_
          rotate_left
          · intro w hSw; (try dsimp only at hSw); go_split_ands; go_simp; with_reducible rfl
          change wpAnyH _ _ _ _ _ _ _ (Act.put _ (some 90) _) _
          simp only [Act.put, List.setIfInBounds_toArray, List.set_cons_zero, List.set_cons_succ, Array.toArray_toList]
          refine wpAnyH_take (i := 3) (v := ?_) rfl (by kernel_rfl) (by kernel_rfl) (by kernel_rfl) (fun _ _ _ h => h) (Or.inl ⟨by rfl, ?_⟩) (by assumption) ?_
          rotate_left
          · intro w hSw; (try dsimp only at hSw); go_split_ands; go_simp; with_reducible rfl
          change wpAnyH _ _ _ _ _ _ _ (Act.put _ (some 91) _) _
          simp only [Act.put, List.setIfInBounds_toArray, List.set_cons_zero, List.set_cons_succ, Array.toArray_toList]
          refine wpAnyH_take (i := 4) (v := ?_) rfl (by kernel_rfl) (by kernel_rfl) (by kernel_rfl) (fun _ _ _ h => h) (Or.inl ⟨by rfl, ?_⟩) (by assumption) ?_
          rotate_left
          · intro w hSw; (try dsimp only at hSw); go_split_ands; go_simp; with_reducible rfl
          change wpAnyH _ _ _ _ _ _ _ (Act.put _ (some 92) _) _
          simp only [Act.put, List.setIfInBounds_toArray, List.set_cons_zero, List.set_cons_succ, Array.toArray_toList]
          refine wpAnyH_take (i := 5) (v := ?_) rfl (by kernel_rfl) (by kernel_rfl) (by kernel_rfl) (fun _ _ _ h => h) (Or.inl ⟨by rfl, ?_⟩) (by assumption) ?_
          rotate_left
          · intro w hSw; (try dsimp only at hSw); go_split_ands; go_simp; with_reducible rfl
          change wpAnyH _ _ _ _ _ _ _ (Act.put _ (some 93) _) _
          simp only [Act.put, List.setIfInBounds_toArray, List.set_cons_zero, List.set_cons_succ, Array.toArray_toList]
          refine wpAnyH_take (i := 6) (v := ?_) rfl (by kernel_rfl) (by kernel_rfl) (by kernel_rfl) (fun _ _ _ h => h) (Or.inl ⟨by rfl, ?_⟩) (by assumption) ?_
          rotate_left
          · intro w hSw; (try dsimp only at hSw); go_split_ands; go_simp; with_reducible rfl
          change wpAnyH _ _ _ _ _ _ _ (Act.put _ (some 94) _) _
          simp only [Act.put, List.setIfInBounds_toArray, List.set_cons_zero, List.set_cons_succ, Array.toArray_toList]
          refine wpAnyH_take (i := 7) (v := ?_) rfl (by kernel_rfl) (by kernel_rfl) (by kernel_rfl) (fun _ _ _ h => h) (Or.inl ⟨by rfl, ?_⟩) (by assumption) ?_
          rotate_left
          · intro w hSw; (try dsimp only at hSw); go_split_ands; go_simp; with_reducible rfl
          change wpAnyH _ _ _ _ _ _ _ (Act.put _ (some 95) _) _
          simp only [Act.put, List.setIfInBounds_toArray, List.set_cons_zero, List.set_cons_succ, Array.toArray_toList]
          refine wpAnyH_take (i := 8) (v := ?_) rfl (by kernel_rfl) (by kernel_rfl) (by kernel_rfl) (fun _ _ _ h => h) (Or.inl ⟨by rfl, ?_⟩) (by assumption) ?_
          rotate_left
          · intro w hSw; (try dsimp only at hSw); go_split_ands; go_simp; with_reducible rfl
          change wpAnyH _ _ _ _ _ _ _ (Act.put _ (some 96) _) _
          simp only [Act.put, List.setIfInBounds_toArray, List.set_cons_zero, List.set_cons_succ, Array.toArray_toList]
          refine wpAnyH_ready (rs := [9]) (by kernel_rfl) (by simp) ?_
          refine (AllReadyH.cons rfl (fun K hK => ?_) AllReadyH.nil)
          go_simp
          (with_reducible refine (to05_any _ _ _ _ _).mono ?_); rintro e wq ⟨rfl, hb⟩; have Mq := Lib.hid (Mq.out.below hb); have he4 := HE4.out; clear hb
          go_wp2_with fail
          refine hK.out _ _ (by exact HSX.out _ Mq.out.bel (G19.out _ _ _ Mq.out)) (fun hHeld => ?_)
          clear hK K
          refine wpAnyH_take (i := 10) (v := ?_) rfl (by kernel_rfl) (by kernel_rfl) (by kernel_rfl) (fun _ _ _ h => h) (Or.inl ⟨by rfl, ?_⟩) (by assumption) ?_
          rotate_left
          · intro w hSw; (try dsimp only at hSw); go_split_ands; go_simp; with_reducible rfl
          change wpAnyH _ _ _ _ _ _ _ (Act.put _ (some 98) _) _
          simp only [Act.put, List.setIfInBounds_toArray, List.set_cons_zero, List.set_cons_succ, Array.toArray_toList]
          refine wpAnyH_take (i := 11) (v := ?_) rfl (by kernel_rfl) (by kernel_rfl) (by kernel_rfl) (fun _ _ _ h => h) (Or.inl ⟨by rfl, ?_⟩) (by assumption) ?_
          rotate_left
          · intro w hSw; (try dsimp only at hSw); go_split_ands; go_simp; with_reducible rfl
          change wpAnyH _ _ _ _ _ _ _ (Act.put _ (some 99) _) _
          simp only [Act.put, List.setIfInBounds_toArray, List.set_cons_zero, List.set_cons_succ, Array.toArray_toList]
          refine wpAnyH_take (i := 12) (v := ?_) rfl (by kernel_rfl) (by kernel_rfl) (by kernel_rfl) (fun _ _ _ h => h) (Or.inl ⟨by rfl, ?_⟩) (by assumption) ?_
          rotate_left
          · intro w hSw; (try dsimp only at hSw); go_split_ands; go_simp; with_reducible rfl
          change wpAnyH _ _ _ _ _ _ _ (Act.put _ (some 100) _) _
          simp only [Act.put, List.setIfInBounds_toArray, List.set_cons_zero, List.set_cons_succ, Array.toArray_toList]
          refine wpAnyH_take (i := 13) (v := ?_) rfl (by kernel_rfl) (by kernel_rfl) (by kernel_rfl) (fun _ _ _ h => h) (Or.inl ⟨by rfl, ?_⟩) (by assumption) ?_
          rotate_left
          · intro w hSw; (try dsimp only at hSw); go_split_ands; go_simp; with_reducible rfl
          change wpAnyH _ _ _ _ _ _ _ (Act.put _ (some 101) _) _
          simp only [Act.put, List.setIfInBounds_toArray, List.set_cons_zero, List.set_cons_succ, Array.toArray_toList]
          refine wpAnyH_take (i := 14) rfl (by kernel_rfl) (by kernel_rfl) (by kernel_rfl) (fun _ _ _ h => h) (yieldsIf_load_mid (by rfl) _ _ rfl _ _ rfl _ _ (fun w hw => hw.2.2.1) Try.underlying27 rfl hki2) (by assumption) ?_
          change wpAnyH _ _ _ _ _ _ _ (Act.put _ (some 102) _) _
          simp only [Act.put, List.setIfInBounds_toArray, List.set_cons_zero, List.set_cons_succ, Array.toArray_toList]
          refine wpAnyH_take (i := 15) rfl (by kernel_rfl) (by kernel_rfl) (by kernel_rfl) (fun _ _ _ h => h) (yieldsIf_load_mid (by rfl) _ _ rfl _ _ rfl _ _ (fun w hw => hw.2.2.2.1) Try.underlying27 rfl hki2) (by assumption) ?_
          change wpAnyH _ _ _ _ _ _ _ (Act.put _ (some 103) _) _
          simp only [Act.put, List.setIfInBounds_toArray, List.set_cons_zero, List.set_cons_succ, Array.toArray_toList]
          refine wpAnyH_ready (rs := [16]) (by kernel_rfl) (by simp) ?_
          refine (AllReadyH.cons rfl (fun K hK => ?_) AllReadyH.nil)
          refine step_binG (by rfl) .eql _ _ _ _ rfl (b8a S) (b8a S) rfl rfl (by kernel_rfl) _ (HE5.out _) ?_; clear he4
          refine hK.out _ _ (by exact HSX.out _ Mq.out.bel (G19.out _ _ _ Mq.out)) (fun hHeld => ?_)
          clear hK K
          refine wpAnyH_take (i := 17) (v := ?_) rfl (by kernel_rfl) (by kernel_rfl) (by kernel_rfl) (fun _ _ _ h => h) (Or.inl ⟨by rfl, ?_⟩) (by assumption) ?_
          rotate_left
          · intro w hSw; (try dsimp only at hSw); go_split_ands; go_simp; with_reducible rfl
          change wpAnyH _ _ _ _ _ _ _ (Act.put _ (some 105) _) _
          simp only [Act.put, List.setIfInBounds_toArray, List.set_cons_zero, List.set_cons_succ, Array.toArray_toList]
          refine wpAnyH_take (i := 18) (v := ?_) rfl (by kernel_rfl) (by kernel_rfl) (by kernel_rfl) (fun _ _ _ h => h) (Or.inl ⟨by rfl, ?_⟩) (by assumption) ?_
          rotate_left
          · intro w hSw; (try dsimp only at hSw); go_split_ands; go_simp; with_reducible rfl
          change wpAnyH _ _ _ _ _ _ _ (Act.put _ (some 106) _) _
          simp only [Act.put, List.setIfInBounds_toArray, List.set_cons_zero, List.set_cons_succ, Array.toArray_toList]
          refine wpAnyH_take (i := 19) (v := ?_) rfl (by kernel_rfl) (by kernel_rfl) (by kernel_rfl) (fun _ _ _ h => h) (Or.inl ⟨by rfl, ?_⟩) (by assumption) ?_
          rotate_left
          · intro w hSw; (try dsimp only at hSw); go_split_ands; go_simp; with_reducible rfl
          change wpAnyH _ _ _ _ _ _ _ (Act.put _ (some 107) _) _
          simp only [Act.put, List.setIfInBounds_toArray, List.set_cons_zero, List.set_cons_succ, Array.toArray_toList]
          refine wpAnyH_take (i := 20) rfl (by kernel_rfl) (by kernel_rfl) (by kernel_rfl) (fun _ _ _ h => h) (yieldsIf_load_mid (by rfl) _ _ rfl _ _ rfl _ _ (fun w hw => hw.2.2.2.2.1) Try.underlying78 rfl hki1) (by assumption) ?_
          change wpAnyH _ _ _ _ _ _ _ (Act.put _ (some 108) _) _
          simp only [Act.put, List.setIfInBounds_toArray, List.set_cons_zero, List.set_cons_succ, Array.toArray_toList]
          refine wpAnyH_ready (rs := [21]) (by kernel_rfl) (by simp) ?_
          refine (AllReadyH.cons rfl (fun K hK => ?_) AllReadyH.nil)
          go_simp
          (with_reducible refine (HHO.out _ (HKK.out _ Mq.out.bel)).mono ?_); rintro e wq ⟨rfl, hb⟩; have Mq := Lib.hid (Mq.out.below hb); clear hb
          go_wp2_with fail
          refine hK.out _ _ (by exact HSX.out _ Mq.out.bel (G19.out _ _ _ Mq.out)) (fun hHeld => ?_)
          clear hK K
          refine wpAnyH_take (i := 22) (v := ?_) rfl (by kernel_rfl) (by kernel_rfl) (by kernel_rfl) (fun _ _ _ h => h) (Or.inl ⟨by rfl, ?_⟩) (by assumption) ?_
          rotate_left
          · intro w hSw; (try dsimp only at hSw); go_split_ands; go_simp; with_reducible rfl
          change wpAnyH _ _ _ _ _ _ _ (Act.put _ (some 110) _) _
          simp only [Act.put, List.setIfInBounds_toArray, List.set_cons_zero, List.set_cons_succ, Array.toArray_toList]
          refine wpAnyH_take (i := 23) (v := ?_) rfl (by kernel_rfl) (by kernel_rfl) (by kernel_rfl) (fun _ _ _ h => h) (Or.inl ⟨by rfl, ?_⟩) (by assumption) ?_
          rotate_left
          · intro w hSw; (try dsimp only at hSw); go_split_ands; go_simp; with_reducible rfl
          change wpAnyH _ _ _ _ _ _ _ (Act.put _ (some 111) _) _
          simp only [Act.put, List.setIfInBounds_toArray, List.set_cons_zero, List.set_cons_succ, Array.toArray_toList]
          refine wpAnyH_take (i := 24) (v := ?_) rfl (by kernel_rfl) (by kernel_rfl) (by kernel_rfl) (fun _ _ _ h => h) (Or.inl ⟨by rfl, ?_⟩) (by assumption) ?_
          rotate_left
          · intro w hSw; (try dsimp only at hSw); go_split_ands; go_simp; with_reducible rfl
          change wpAnyH _ _ _ _ _ _ _ (Act.put _ (some 112) _) _
          simp only [Act.put, List.setIfInBounds_toArray, List.set_cons_zero, List.set_cons_succ, Array.toArray_toList]
          refine wpAnyH_take (i := 25) (v := ?_) rfl (by kernel_rfl) (by kernel_rfl) (by kernel_rfl) (fun _ _ _ h => h) (Or.inl ⟨by rfl, ?_⟩) (by assumption) ?_
          rotate_left
          · intro w hSw; (try dsimp only at hSw); go_split_ands; go_simp; with_reducible rfl
          change wpAnyH _ _ _ _ _ _ _ (Act.put _ (some 113) _) _
          simp only [Act.put, List.setIfInBounds_toArray, List.set_cons_zero, List.set_cons_succ, Array.toArray_toList]
          refine wpAnyH_take (i := 26) (v := ?_) rfl (by kernel_rfl) (by kernel_rfl) (by kernel_rfl) (fun _ _ _ h => h) (Or.inl ⟨by rfl, ?_⟩) (by assumption) ?_
          rotate_left
          · intro w hSw; (try dsimp only at hSw); go_split_ands; go_simp; with_reducible rfl
          change wpAnyH _ _ _ _ _ _ _ (Act.put _ (some 114) _) _
          simp only [Act.put, List.setIfInBounds_toArray, List.set_cons_zero, List.set_cons_succ, Array.toArray_toList]
          refine wpAnyH_take (i := 27) (v := ?_) rfl (by kernel_rfl) (by kernel_rfl) (by kernel_rfl) (fun _ _ _ h => h) (Or.inl ⟨by rfl, ?_⟩) (by assumption) ?_
          rotate_left
          · intro w hSw; (try dsimp only at hSw); go_split_ands; go_simp; with_reducible rfl
          change wpAnyH _ _ _ _ _ _ _ (Act.put _ (some 115) _) _
          simp only [Act.put, List.setIfInBounds_toArray, List.set_cons_zero, List.set_cons_succ, Array.toArray_toList]
          refine wpAnyH_take (i := 28) (v := ?_) rfl (by kernel_rfl) (by kernel_rfl) (by kernel_rfl) (fun _ _ _ h => h) (Or.inl ⟨by rfl, ?_⟩) (by assumption) ?_
          rotate_left
          · intro w hSw; (try dsimp only at hSw); go_split_ands; go_simp; with_reducible rfl
          change wpAnyH _ _ _ _ _ _ _ (Act.put _ (some 116) _) _
          simp only [Act.put, List.setIfInBounds_toArray, List.set_cons_zero, List.set_cons_succ, Array.toArray_toList]
          refine wpAnyH_take (i := 29) (v := ?_) rfl (by kernel_rfl) (by kernel_rfl) (by kernel_rfl) (fun _ _ _ h => h) (Or.inl ⟨by rfl, ?_⟩) (by assumption) ?_
          rotate_left
          · intro w hSw; (try dsimp only at hSw); go_split_ands; go_simp; with_reducible rfl
          change wpAnyH _ _ _ _ _ _ _ (Act.put _ (some 117) _) _
          simp only [Act.put, List.setIfInBounds_toArray, List.set_cons_zero, List.set_cons_succ, Array.toArray_toList]
          refine wpAnyH_take (i := 31) (v := ?_) rfl (by kernel_rfl) (by kernel_rfl) (by kernel_rfl) (fun _ _ _ h => h) (Or.inl ⟨by rfl, ?_⟩) (by assumption) ?_
          rotate_left
          · intro w hSw; (try dsimp only at hSw); go_split_ands; go_simp; with_reducible rfl
          change wpAnyH _ _ _ _ _ _ _ (Act.put _ (some 119) _) _
          simp only [Act.put, List.setIfInBounds_toArray, List.set_cons_zero, List.set_cons_succ, Array.toArray_toList]
          refine wpAnyH_ready (rs := [30]) (by kernel_rfl) (by simp) ?_
          refine (AllReadyH.cons rfl (fun K hK => ?_) AllReadyH.nil)
          go_simp
          (with_reducible refine (HRB.out _).mono ?_); rintro e wq ⟨v, rfl, hf⟩; obtain ⟨A9, c9, rfl, -, -, -, -⟩ := own_form hf.own; have Mq := Lib.hid (Mq.out.addr hf); clear hf
          go_wp2_with fail
          refine hK.out _ _ (by exact HSX.out _ Mq.out.bel (G19.out _ _ _ Mq.out)) (fun hHeld => ?_)
          clear hK K
          refine wpAnyH_ready (rs := [32]) (by kernel_rfl) (by simp) ?_
          refine (AllReadyH.cons rfl (fun K hK => ?_) AllReadyH.nil)
          refine step_appEG (by rfl) _ _ 26 rfl [] Mq.out el_u8c rfl _ (some ⟨w13.heap.size, 0, none⟩) 32 32 (by8 S) rfl (rd_of_rb (b8_rbM (G13.out _ Mq.out.bel)) SL.out) (by8_one _) (by decide) (by decide) ?_; intro A10 c10 wq N10 X10 hn10 hx10 mq; rw [← by8_append, HBB.out] at hx10; rw [hx10] at mq; have Mq := Lib.hid mq; have HN10 := Lib.hid (show N10 = 41 from hn10); clear mq hn10 hx10
          refine hK.out _ _ (by exact HSX.out _ Mq.out.bel (G19.out _ _ _ Mq.out)) (fun hHeld => ?_)
          clear hK K
          (try (change wpAnyH _ _ _ _ _ _ _ (Act.put _ (some 120) _) _; simp only [Act.put, List.setIfInBounds_toArray, List.set_cons_zero, List.set_cons_succ, Array.toArray_toList]))
          refine wpAnyH_ready (rs := [33]) (by kernel_rfl) (by simp) ?_
          refine (AllReadyH.cons rfl (fun K hK => ?_) AllReadyH.nil)
          go_simp
          (with_reducible refine (HSB.out _ _ _ _ _ _ HN10.out (HRY.out _ Mq.out.bel) (Mq.out.rbX (List.mem_cons_self ..) (BLn.out.trans HN10.out.symm))).mono ?_); rintro e wq ⟨rfl, hb⟩; have Mq := Lib.hid (Mq.out.below hb); clear hb
          go_wp2_with fail
          refine hK.out _ _ (by exact HSX.out _ Mq.out.bel (G19.out _ _ _ Mq.out)) (fun hHeld => ?_)
          clear hK K
          as_aux_lemma =>
            refine wpAnyH_take (i := 34) (v := ?_) rfl (by kernel_rfl) (by kernel_rfl) (by kernel_rfl) (fun _ _ _ h => h) (Or.inl ⟨by rfl, ?_⟩) (by assumption) ?_
            rotate_left
            · intro w hSw; (try dsimp only at hSw); go_split_ands; go_simp; with_reducible rfl
            change wpAnyH _ _ _ _ _ _ _ (Act.put _ (some 122) _) _
            simp only [Act.put, List.setIfInBounds_toArray, List.set_cons_zero, List.set_cons_succ, Array.toArray_toList]
            refine wpAnyH_take (i := 35) (v := ?_) rfl (by kernel_rfl) (by kernel_rfl) (by kernel_rfl) (fun _ _ _ h => h) (Or.inl ⟨by rfl, ?_⟩) (by assumption) ?_
            rotate_left
            · intro w hSw; (try dsimp only at hSw); go_split_ands; go_simp; with_reducible rfl
            change wpAnyH _ _ _ _ _ _ _ (Act.put _ (some 123) _) _
            simp only [Act.put, List.setIfInBounds_toArray, List.set_cons_zero, List.set_cons_succ, Array.toArray_toList]
            refine wpAnyH_take (i := 36) (v := ?_) rfl (by kernel_rfl) (by kernel_rfl) (by kernel_rfl) (fun _ _ _ h => h) (Or.inl ⟨by rfl, ?_⟩) (by assumption) ?_
            rotate_left
            · intro w hSw; (try dsimp only at hSw); go_split_ands; go_simp; with_reducible rfl
            change wpAnyH _ _ _ _ _ _ _ (Act.put _ (some 124) _) _
            simp only [Act.put, List.setIfInBounds_toArray, List.set_cons_zero, List.set_cons_succ, Array.toArray_toList]
            refine wpAnyH_take (i := 37) (v := ?_) rfl (by kernel_rfl) (by kernel_rfl) (by kernel_rfl) (fun _ _ _ h => h) (Or.inl ⟨by rfl, ?_⟩) (by assumption) ?_
            rotate_left
            · intro w hSw; (try dsimp only at hSw); go_split_ands; go_simp; with_reducible rfl
            change wpAnyH _ _ _ _ _ _ _ (Act.put _ (some 125) _) _
            simp only [Act.put, List.setIfInBounds_toArray, List.set_cons_zero, List.set_cons_succ, Array.toArray_toList]
            refine wpAnyH_take (i := 38) (v := ?_) rfl (by kernel_rfl) (by kernel_rfl) (by kernel_rfl) (fun _ _ _ h => h) (Or.inl ⟨by rfl, ?_⟩) (by assumption) ?_
            rotate_left
            · intro w hSw; (try dsimp only at hSw); go_split_ands; go_simp; with_reducible rfl
            change wpAnyH _ _ _ _ _ _ _ (Act.put _ (some 126) _) _
            simp only [Act.put, List.setIfInBounds_toArray, List.set_cons_zero, List.set_cons_succ, Array.toArray_toList]
            refine wpAnyH_take (i := 39) (v := ?_) rfl (by kernel_rfl) (by kernel_rfl) (by kernel_rfl) (fun _ _ _ h => h) (Or.inl ⟨by rfl, ?_⟩) (by assumption) ?_
            rotate_left
            · intro w hSw; (try dsimp only at hSw); go_split_ands; go_simp; with_reducible rfl
            change wpAnyH _ _ _ _ _ _ _ (Act.put _ (some 127) _) _
            simp only [Act.put, List.setIfInBounds_toArray, List.set_cons_zero, List.set_cons_succ, Array.toArray_toList]
            refine wpAnyH_take (i := 40) (v := ?_) rfl (by kernel_rfl) (by kernel_rfl) (by kernel_rfl) (fun _ _ _ h => h) (Or.inl ⟨by rfl, ?_⟩) (by assumption) ?_
            rotate_left
            · intro w hSw; (try dsimp only at hSw); go_split_ands; go_simp; with_reducible rfl
            change wpAnyH _ _ _ _ _ _ _ (Act.put _ (some 128) _) _
            simp only [Act.put, List.setIfInBounds_toArray, List.set_cons_zero, List.set_cons_succ, Array.toArray_toList]
            refine wpAnyH_take (i := 41) (v := ?_) rfl (by kernel_rfl) (by kernel_rfl) (by kernel_rfl) (fun _ _ _ h => h) (Or.inl ⟨by rfl, ?_⟩) (by assumption) ?_
            rotate_left
            · intro w hSw; (try dsimp only at hSw); go_split_ands; go_simp; with_reducible rfl
            change wpAnyH _ _ _ _ _ _ _ (Act.put _ (some 129) _) _
            simp only [Act.put, List.setIfInBounds_toArray, List.set_cons_zero, List.set_cons_succ, Array.toArray_toList]
            refine wpAnyH_take (i := 42) (v := ?_) rfl (by kernel_rfl) (by kernel_rfl) (by kernel_rfl) (fun _ _ _ h => h) (Or.inl ⟨by rfl, ?_⟩) (by assumption) ?_
            rotate_left
            · intro w hSw; (try dsimp only at hSw); go_split_ands; go_simp; with_reducible rfl
            change wpAnyH _ _ _ _ _ _ _ (Act.put _ (some 130) _) _
            simp only [Act.put, List.setIfInBounds_toArray, List.set_cons_zero, List.set_cons_succ, Array.toArray_toList]
            refine wpAnyH_take (i := 43) (v := ?_) rfl (by kernel_rfl) (by kernel_rfl) (by kernel_rfl) (fun _ _ _ h => h) (Or.inl ⟨by rfl, ?_⟩) (by assumption) ?_
            rotate_left
            · intro w hSw; (try dsimp only at hSw); go_split_ands; go_simp; with_reducible rfl
            change wpAnyH _ _ _ _ _ _ _ (Act.put _ (some 131) _) _
            simp only [Act.put, List.setIfInBounds_toArray, List.set_cons_zero, List.set_cons_succ, Array.toArray_toList]
            refine wpAnyH_take (i := 44) (v := ?_) rfl (by kernel_rfl) (by kernel_rfl) (by kernel_rfl) (fun _ _ _ h => h) (Or.inl ⟨by rfl, ?_⟩) (by assumption) ?_
            rotate_left
            · intro w hSw; (try dsimp only at hSw); go_split_ands; go_simp; with_reducible rfl
            change wpAnyH _ _ _ _ _ _ _ (Act.put _ (some 132) _) _
            simp only [Act.put, List.setIfInBounds_toArray, List.set_cons_zero, List.set_cons_succ, Array.toArray_toList]
            refine wpAnyH_take (i := 45) rfl (by kernel_rfl) (by kernel_rfl) (by kernel_rfl) (fun _ _ _ h => h) (yieldsIf_load_mid (by rfl) _ _ rfl _ _ rfl _ _ (fun w hw => hw.2.2.2.2.2.1) Try.underlying78 rfl hki1) (by assumption) ?_
            change wpAnyH _ _ _ _ _ _ _ (Act.put _ (some 133) _) _
            simp only [Act.put, List.setIfInBounds_toArray, List.set_cons_zero, List.set_cons_succ, Array.toArray_toList]
            refine wpAnyH_take (i := 46) rfl (by kernel_rfl) (by kernel_rfl) (by kernel_rfl) (fun _ _ _ h => h) (yieldsIf_load_mid (by rfl) _ _ rfl _ _ rfl _ _ (fun w hw => hw.2.2.2.2.1) Try.underlying78 rfl hki1) (by assumption) ?_
            change wpAnyH _ _ _ _ _ _ _ (Act.put _ (some 134) _) _
            simp only [Act.put, List.setIfInBounds_toArray, List.set_cons_zero, List.set_cons_succ, Array.toArray_toList]
            refine wpAnyH_ready (rs := [47]) (by kernel_rfl) (by simp) ?_
            refine (AllReadyH.cons rfl (fun K hK => ?_) AllReadyH.nil)
            refine step_binG (by rfl) .eql _ _ _ _ rfl (tkc i r x s S) (tkc i r x s S) rfl rfl (by kernel_rfl) _ (HE7.out _) ?_
            refine hK.out _ _ (by exact HSX.out _ Mq.out.bel (G19.out _ _ _ Mq.out)) (fun hHeld => ?_)
            clear hK K
            refine wpAnyH_take (i := 48) (v := ?_) rfl (by kernel_rfl) (by kernel_rfl) (by kernel_rfl) (fun _ _ _ h => h) (Or.inl ⟨by rfl, ?_⟩) (by assumption) ?_
            rotate_left
            · intro w hSw; (try dsimp only at hSw); go_split_ands; go_simp; with_reducible rfl
            change wpAnyH _ _ _ _ _ _ _ (Act.put _ (some 136) _) _
            simp only [Act.put, List.setIfInBounds_toArray, List.set_cons_zero, List.set_cons_succ, Array.toArray_toList]
            refine wpAnyH_take (i := 49) (v := ?_) rfl (by kernel_rfl) (by kernel_rfl) (by kernel_rfl) (fun _ _ _ h => h) (Or.inl ⟨by rfl, ?_⟩) (by assumption) ?_
            rotate_left
            · intro w hSw; (try dsimp only at hSw); go_split_ands; go_simp; with_reducible rfl
            change wpAnyH _ _ _ _ _ _ _ (Act.put _ (some 137) _) _
            simp only [Act.put, List.setIfInBounds_toArray, List.set_cons_zero, List.set_cons_succ, Array.toArray_toList]
            refine wpAnyH_take (i := 50) rfl (by kernel_rfl) (by kernel_rfl) (by kernel_rfl) (fun _ _ _ h => h) (yieldsIf_load_mid (by rfl) _ _ rfl _ _ rfl _ _ (fun w hw => hw.2.2.2.2.1) Try.underlying78 rfl hki1) (by assumption) ?_
            change wpAnyH _ _ _ _ _ _ _ (Act.put _ (some 138) _) _
            simp only [Act.put, List.setIfInBounds_toArray, List.set_cons_zero, List.set_cons_succ, Array.toArray_toList]
            refine wpAnyH_take (i := 51) (v := ?_) rfl (by kernel_rfl) (by kernel_rfl) (by kernel_rfl) (fun _ _ _ h => h) (Or.inl ⟨by rfl, ?_⟩) (by assumption) ?_
            rotate_left
            · intro w hSw; (try dsimp only at hSw); go_split_ands; go_simp; with_reducible rfl
            change wpAnyH _ _ _ _ _ _ _ (Act.put _ (some 139) _) _
            simp only [Act.put, List.setIfInBounds_toArray, List.set_cons_zero, List.set_cons_succ, Array.toArray_toList]
            refine wpAnyH_take (i := 53) rfl (by kernel_rfl) (by kernel_rfl) (by kernel_rfl) (fun _ _ _ h => h) (yieldsIf_load_mid (by rfl) _ _ rfl _ _ rfl _ _ (fun w hw => hw.2.2.2.2.2.2) Try.underlying27 rfl hki3) (by assumption) ?_
            change wpAnyH _ _ _ _ _ _ _ (Act.put _ (some 141) _) _
            simp only [Act.put, List.setIfInBounds_toArray, List.set_cons_zero, List.set_cons_succ, Array.toArray_toList]
            refine wpAnyH_ready (rs := [52]) (by kernel_rfl) (by simp) ?_
            refine (AllReadyH.cons rfl (fun K hK => ?_) AllReadyH.nil)
            go_simp
            (with_reducible refine (HPV.out _ _ _ (HPS.out _ Mq.out.bel)).mono ?_); rintro e wq ⟨rfl, hb⟩; have Mq := Lib.hid (Mq.out.below hb); clear hb
            go_wp2_with fail
            refine hK.out _ _ (by exact HSX.out _ Mq.out.bel (G19.out _ _ _ Mq.out)) (fun hHeld => ?_)
            clear hK K
            refine wpAnyH_ready (rs := [54]) (by kernel_rfl) (by simp) ?_
            refine (AllReadyH.cons rfl (fun K hK => ?_) AllReadyH.nil)
            refine step_binG (by rfl) .eql _ _ _ _ rfl (b8a T) (b8a T) rfl rfl (by kernel_rfl) _ (HE6.out _) ?_
            refine hK.out _ _ (by exact HSX.out _ Mq.out.bel (G19.out _ _ _ Mq.out)) (fun hHeld => ?_)
            clear hK K
            refine wpAnyH_take (i := 55) (v := ?_) rfl (by kernel_rfl) (by kernel_rfl) (by kernel_rfl) (fun _ _ _ h => h) (Or.inl ⟨by rfl, ?_⟩) (by assumption) ?_
            rotate_left
            · intro w hSw; (try dsimp only at hSw); go_split_ands; go_simp; with_reducible rfl
            change wpAnyH _ _ _ _ _ _ _ (Act.put _ (some 143) _) _
            simp only [Act.put, List.setIfInBounds_toArray, List.set_cons_zero, List.set_cons_succ, Array.toArray_toList]
            refine wpAnyH_take (i := 56) (v := ?_) rfl (by kernel_rfl) (by kernel_rfl) (by kernel_rfl) (fun _ _ _ h => h) (Or.inl ⟨by rfl, ?_⟩) (by assumption) ?_
            rotate_left
            · intro w hSw; (try dsimp only at hSw); go_split_ands; go_simp; with_reducible rfl
            change wpAnyH _ _ _ _ _ _ _ (Act.put _ (some 144) _) _
            simp only [Act.put, List.setIfInBounds_toArray, List.set_cons_zero, List.set_cons_succ, Array.toArray_toList]
            refine wpAnyH_take (i := 57) rfl (by kernel_rfl) (by kernel_rfl) (by kernel_rfl) (fun _ _ _ h => h) (yieldsIf_load_mid (by rfl) _ _ rfl _ _ rfl _ _ (fun w hw => hw.2.2.2.2.1) Try.underlying78 rfl hki1) (by assumption) ?_
            change wpAnyH _ _ _ _ _ _ _ (Act.put _ (some 145) _) _
            simp only [Act.put, List.setIfInBounds_toArray, List.set_cons_zero, List.set_cons_succ, Array.toArray_toList]
            refine wpAnyH_take (i := 60) (v := ?_) rfl (by kernel_rfl) (by kernel_rfl) (by kernel_rfl) (fun _ _ _ h => h) (Or.inl ⟨by rfl, ?_⟩) (by assumption) ?_
            rotate_left
            · intro w hSw; (try dsimp only at hSw); go_split_ands; go_simp; with_reducible rfl
            change wpAnyH _ _ _ _ _ _ _ (Act.put _ (some 148) _) _
            simp only [Act.put, List.setIfInBounds_toArray, List.set_cons_zero, List.set_cons_succ, Array.toArray_toList]
            refine wpAnyH_ready (rs := [58]) (by kernel_rfl) (by simp) ?_
            refine (AllReadyH.cons rfl (fun K hK => ?_) AllReadyH.nil)
            go_simp
            (with_reducible refine (HKY.out _).mono ?_); rintro e wq ⟨g2, rfl, hk, hb⟩; have Mq := Lib.hid (Mq.out.below hb); have HK2 := Lib.hid hk; clear hb hk
            go_wp2_with fail
            refine hK.out _ _ (by exact HSX.out _ Mq.out.bel (G19.out _ _ _ Mq.out)) (fun hHeld => ?_)
            clear hK K
            refine wpAnyH_ready (rs := [59]) (by kernel_rfl) (by simp) ?_
            refine (AllReadyH.cons rfl (fun K hK => ?_) AllReadyH.nil)
            go_simp
            (with_reducible refine (HKB.out _ _ HK2.out).mono ?_); rintro e wq ⟨A11, c11, rfl, hr, hb⟩; have Mq := Lib.hid (Mq.out.below hb); have HR2 := Lib.hid hr; clear hb hr
            go_wp2_with fail
            refine hK.out _ _ (by exact HSX.out _ Mq.out.bel (G19.out _ _ _ Mq.out)) (fun hHeld => ?_)
            clear hK K
            refine wpAnyH_ready (rs := [61]) (by kernel_rfl) (by simp) ?_
            refine (AllReadyH.cons rfl (fun K hK => ?_) AllReadyH.nil)
            go_simp
            (with_reducible refine (HSS.out _ _ _ _ _ HR2.out (b8_rbM (G13.out _ Mq.out.bel))).mono ?_); rintro e wq ⟨rfl, hb⟩; have Mq := Lib.hid (Mq.out.below hb); clear hb
            go_wp2_with fail
            refine hK.out _ _ (by exact HSX.out _ Mq.out.bel (G19.out _ _ _ Mq.out)) (fun hHeld => ?_)
            clear hK K
            refine wpAnyH_take (i := 62) (v := ?_) rfl (by kernel_rfl) (by kernel_rfl) (by kernel_rfl) (fun _ _ _ h => h) (Or.inl ⟨by rfl, ?_⟩) (by assumption) ?_
            rotate_left
            · intro w hSw; (try dsimp only at hSw); go_split_ands; go_simp; with_reducible rfl
            change wpAnyH _ _ _ _ _ _ _ (Act.put _ (some 150) _) _
            simp only [Act.put, List.setIfInBounds_toArray, List.set_cons_zero, List.set_cons_succ, Array.toArray_toList]
            refine wpAnyH_take (i := 63) (v := ?_) rfl (by kernel_rfl) (by kernel_rfl) (by kernel_rfl) (fun _ _ _ h => h) (Or.inl ⟨by rfl, ?_⟩) (by assumption) ?_
            rotate_left
            · intro w hSw; (try dsimp only at hSw); go_split_ands; go_simp; with_reducible rfl
            change wpAnyH _ _ _ _ _ _ _ (Act.put _ (some 151) _) _
            simp only [Act.put, List.setIfInBounds_toArray, List.set_cons_zero, List.set_cons_succ, Array.toArray_toList]
            refine wpAnyH_take (i := 64) (v := ?_) rfl (by kernel_rfl) (by kernel_rfl) (by kernel_rfl) (fun _ _ _ h => h) (Or.inl ⟨by rfl, ?_⟩) (by assumption) ?_
            rotate_left
            · intro w hSw; (try dsimp only at hSw); go_split_ands; go_simp; with_reducible rfl
            change wpAnyH _ _ _ _ _ _ _ (Act.put _ (some 152) _) _
            simp only [Act.put, List.setIfInBounds_toArray, List.set_cons_zero, List.set_cons_succ, Array.toArray_toList]
            refine wpAnyH_take (i := 65) (v := ?_) rfl (by kernel_rfl) (by kernel_rfl) (by kernel_rfl) (fun _ _ _ h => h) (Or.inl ⟨by rfl, ?_⟩) (by assumption) ?_
            rotate_left
            · intro w hSw; (try dsimp only at hSw); go_split_ands; go_simp; with_reducible rfl
            change wpAnyH _ _ _ _ _ _ _ (Act.put _ (some 153) _) _
            simp only [Act.put, List.setIfInBounds_toArray, List.set_cons_zero, List.set_cons_succ, Array.toArray_toList]
            refine wpAnyH_take (i := 66) (v := ?_) rfl (by kernel_rfl) (by kernel_rfl) (by kernel_rfl) (fun _ _ _ h => h) (Or.inl ⟨by rfl, ?_⟩) (by assumption) ?_
            rotate_left
            · intro w hSw; (try dsimp only at hSw); go_split_ands; go_simp; with_reducible rfl
            change wpAnyH _ _ _ _ _ _ _ (Act.put _ (some 154) _) _
            simp only [Act.put, List.setIfInBounds_toArray, List.set_cons_zero, List.set_cons_succ, Array.toArray_toList]
            refine wpAnyH_take (i := 67) (v := ?_) rfl (by kernel_rfl) (by kernel_rfl) (by kernel_rfl) (fun _ _ _ h => h) (Or.inl ⟨by rfl, ?_⟩) (by assumption) ?_
            rotate_left
            · intro w hSw; (try dsimp only at hSw); go_split_ands; go_simp; with_reducible rfl
            change wpAnyH _ _ _ _ _ _ _ (Act.put _ (some 155) _) _
            simp only [Act.put, List.setIfInBounds_toArray, List.set_cons_zero, List.set_cons_succ, Array.toArray_toList]
            refine wpAnyH_take (i := 68) (v := ?_) rfl (by kernel_rfl) (by kernel_rfl) (by kernel_rfl) (fun _ _ _ h => h) (Or.inl ⟨by rfl, ?_⟩) (by assumption) ?_
            rotate_left
            · intro w hSw; (try dsimp only at hSw); go_split_ands; go_simp; with_reducible rfl
            change wpAnyH _ _ _ _ _ _ _ (Act.put _ (some 156) _) _
            simp only [Act.put, List.setIfInBounds_toArray, List.set_cons_zero, List.set_cons_succ, Array.toArray_toList]
            refine wpAnyH_ready (rs := [69]) (by kernel_rfl) (by simp) ?_
            refine (AllReadyH.cons rfl (fun K hK => ?_) AllReadyH.nil)
            go_simp
            (with_reducible refine (HPO.out _ _ _ _ _ (HKK.out _ Mq.out.bel) (b8_rbM (G19.out _ _ _ Mq.out)) (HPS.out _ Mq.out.bel)).mono ?_); rintro e wq ⟨rfl, hb⟩; have Mq := Lib.hid (Mq.out.below hb); clear hb
            go_wp2_with fail
            refine hK.out _ _ (by exact HSX.out _ Mq.out.bel (G19.out _ _ _ Mq.out)) (fun hHeld => ?_)
            clear hK K
            refine wpAnyH_take (i := 70) (v := ?_) rfl (by kernel_rfl) (by kernel_rfl) (by kernel_rfl) (fun _ _ _ h => h) (Or.inl ⟨by rfl, ?_⟩) (by assumption) ?_
            rotate_left
            · intro w hSw; (try dsimp only at hSw); go_split_ands; go_simp; with_reducible rfl
            change wpAnyH _ _ _ _ _ _ _ (Act.put _ (some 158) _) _
            simp only [Act.put, List.setIfInBounds_toArray, List.set_cons_zero, List.set_cons_succ, Array.toArray_toList]
            refine wpAnyH_take (i := 71) (v := ?_) rfl (by kernel_rfl) (by kernel_rfl) (by kernel_rfl) (fun _ _ _ h => h) (Or.inl ⟨by rfl, ?_⟩) (by assumption) ?_
            rotate_left
            · intro w hSw; (try dsimp only at hSw); go_split_ands; go_simp; with_reducible rfl
            change wpAnyH _ _ _ _ _ _ _ (Act.put _ (some 159) _) _
            simp only [Act.put, List.setIfInBounds_toArray, List.set_cons_zero, List.set_cons_succ, Array.toArray_toList]
            refine wpAnyH_take (i := 72) (v := ?_) rfl (by kernel_rfl) (by kernel_rfl) (by kernel_rfl) (fun _ _ _ h => h) (Or.inl ⟨by rfl, ?_⟩) (by assumption) ?_
            rotate_left
            · intro w hSw; (try dsimp only at hSw); go_split_ands; go_simp; with_reducible rfl
            change wpAnyH _ _ _ _ _ _ _ (Act.put _ (some 160) _) _
            simp only [Act.put, List.setIfInBounds_toArray, List.set_cons_zero, List.set_cons_succ, Array.toArray_toList]
            refine wpAnyH_take (i := 73) (v := ?_) rfl (by kernel_rfl) (by kernel_rfl) (by kernel_rfl) (fun _ _ _ h => h) (Or.inl ⟨by rfl, ?_⟩) (by assumption) ?_
            rotate_left
            · intro w hSw; (try dsimp only at hSw); go_split_ands; go_simp; with_reducible rfl
            change wpAnyH _ _ _ _ _ _ _ (Act.put _ (some 161) _) _
            simp only [Act.put, List.setIfInBounds_toArray, List.set_cons_zero, List.set_cons_succ, Array.toArray_toList]
            refine wpAnyH_take (i := 74) (v := ?_) rfl (by kernel_rfl) (by kernel_rfl) (by kernel_rfl) (fun _ _ _ h => h) (Or.inl ⟨by rfl, ?_⟩) (by assumption) ?_
            rotate_left
            · intro w hSw; (try dsimp only at hSw); go_split_ands; go_simp; with_reducible rfl
            change wpAnyH _ _ _ _ _ _ _ (Act.put _ (some 162) _) _
            simp only [Act.put, List.setIfInBounds_toArray, List.set_cons_zero, List.set_cons_succ, Array.toArray_toList]
            refine wpAnyH_take (i := 75) (v := ?_) rfl (by kernel_rfl) (by kernel_rfl) (by kernel_rfl) (fun _ _ _ h => h) (Or.inl ⟨by rfl, ?_⟩) (by assumption) ?_
            rotate_left
            · intro w hSw; (try dsimp only at hSw); go_split_ands; go_simp; with_reducible rfl
            change wpAnyH _ _ _ _ _ _ _ (Act.put _ (some 163) _) _
            simp only [Act.put, List.setIfInBounds_toArray, List.set_cons_zero, List.set_cons_succ, Array.toArray_toList]
            refine wpAnyH_take (i := 76) (v := ?_) rfl (by kernel_rfl) (by kernel_rfl) (by kernel_rfl) (fun _ _ _ h => h) (Or.inl ⟨by rfl, ?_⟩) (by assumption) ?_
            rotate_left
            · intro w hSw; (try dsimp only at hSw); go_split_ands; go_simp; with_reducible rfl
            change wpAnyH _ _ _ _ _ _ _ (Act.put _ (some 164) _) _
            simp only [Act.put, List.setIfInBounds_toArray, List.set_cons_zero, List.set_cons_succ, Array.toArray_toList]
            refine wpAnyH_take (i := 77) (v := ?_) rfl (by kernel_rfl) (by kernel_rfl) (by kernel_rfl) (fun _ _ _ h => h) (Or.inl ⟨by rfl, ?_⟩) (by assumption) ?_
            rotate_left
            · intro w hSw; (try dsimp only at hSw); go_split_ands; go_simp; with_reducible rfl
            change wpAnyH _ _ _ _ _ _ _ (Act.put _ (some 165) _) _
            simp only [Act.put, List.setIfInBounds_toArray, List.set_cons_zero, List.set_cons_succ, Array.toArray_toList]
            refine wpAnyH_take (i := 78) (v := ?_) rfl (by kernel_rfl) (by kernel_rfl) (by kernel_rfl) (fun _ _ _ h => h) (Or.inl ⟨by rfl, ?_⟩) (by assumption) ?_
            rotate_left
            · intro w hSw; (try dsimp only at hSw); go_split_ands; go_simp; with_reducible rfl
            change wpAnyH _ _ _ _ _ _ _ (Act.put _ (some 166) _) _
            simp only [Act.put, List.setIfInBounds_toArray, List.set_cons_zero, List.set_cons_succ, Array.toArray_toList]
            refine wpAnyH_take (i := 79) (v := ?_) rfl (by kernel_rfl) (by kernel_rfl) (by kernel_rfl) (fun _ _ _ h => h) (Or.inl ⟨by rfl, ?_⟩) (by assumption) ?_
            rotate_left
            · intro w hSw; (try dsimp only at hSw); go_split_ands; go_simp; with_reducible rfl
            change wpAnyH _ _ _ _ _ _ _ (Act.put _ (some 167) _) _
            simp only [Act.put, List.setIfInBounds_toArray, List.set_cons_zero, List.set_cons_succ, Array.toArray_toList]
            refine wpAnyH_take (i := 80) (v := ?_) rfl (by kernel_rfl) (by kernel_rfl) (by kernel_rfl) (fun _ _ _ h => h) (Or.inl ⟨by rfl, ?_⟩) (by assumption) ?_
            rotate_left
            · intro w hSw; (try dsimp only at hSw); go_split_ands; go_simp; with_reducible rfl
            change wpAnyH _ _ _ _ _ _ _ (Act.put _ (some 168) _) _
            simp only [Act.put, List.setIfInBounds_toArray, List.set_cons_zero, List.set_cons_succ, Array.toArray_toList]
            refine wpAnyH_ready (rs := [81]) (by kernel_rfl) (by simp) ?_
            refine (AllReadyH.cons rfl (fun K hK => ?_) AllReadyH.nil)
            go_simp
            (with_reducible refine (proves_nil _ _ _ _ _ _ _ _ _ _ _).mono ?_); rintro e wq ⟨rfl, hb⟩; have Mq := Lib.hid (Mq.out.below hb); clear hb
            go_wp2_with fail
            refine hK.out _ _ (by exact HSX.out _ Mq.out.bel (G19.out _ _ _ Mq.out)) (fun hHeld => ?_)
            clear hK K
            refine wpAnyH_take (i := 82) (v := ?_) rfl (by kernel_rfl) (by kernel_rfl) (by kernel_rfl) (fun _ _ _ h => h) (Or.inl ⟨by rfl, ?_⟩) (by assumption) ?_
            rotate_left
            · intro w hSw; (try dsimp only at hSw); go_split_ands; go_simp; with_reducible rfl
            change wpAnyH _ _ _ _ _ _ _ (Act.put _ (some 170) _) _
            simp only [Act.put, List.setIfInBounds_toArray, List.set_cons_zero, List.set_cons_succ, Array.toArray_toList]
            refine wpAnyH_take (i := 83) (v := ?_) rfl (by kernel_rfl) (by kernel_rfl) (by kernel_rfl) (fun _ _ _ h => h) (Or.inl ⟨by rfl, ?_⟩) (by assumption) ?_
            rotate_left
            · intro w hSw; (try dsimp only at hSw); go_split_ands; go_simp; with_reducible rfl
            change wpAnyH _ _ _ _ _ _ _ (Act.put _ (some 171) _) _
            simp only [Act.put, List.setIfInBounds_toArray, List.set_cons_zero, List.set_cons_succ, Array.toArray_toList]
            refine wpAnyH_take (i := 84) (v := ?_) rfl (by kernel_rfl) (by kernel_rfl) (by kernel_rfl) (fun _ _ _ h => h) (Or.inl ⟨by rfl, ?_⟩) (by assumption) ?_
            rotate_left
            · intro w hSw; (try dsimp only at hSw); go_split_ands; go_simp; with_reducible rfl
            change wpAnyH _ _ _ _ _ _ _ (Act.put _ (some 6) _) _
            simp only [Act.put, List.setIfInBounds_toArray, List.set_cons_zero, List.set_cons_succ, Array.toArray_toList]
            refine wpAnyH_done (by kernel_rfl) ?_ _
            clear hHeld HSX
            go_wp2
            go_ret
            exact ⟨rfl, HW17.out _ Mq.out.bel⟩
theorem contract_tokenMakes (W : World) (v0 v1 v2 : Value) (a0 : ∃ r : Rw, v0 = r.v ∧ r.ok .u8 W) (a1 : ∃ zs : List Int, v1 = .agg (zs.map (Value.int .i64)).toArray ∧ zs.length = 4 ∧ ∀ z ∈ zs, in64 z)
    (a2 : ∃ A c, ∃ rows : List Rw, v2 = .slice A rows.length c ∧ rows.length ≤ c ∧ c ≤ maxLen ∧ Rd W W.heap.size 1 A rows.length (rows.map Rw.v) ∧ ∀ x ∈ rows, x.ok .u8 W) :
    Calls Try.prog 9 #[v0, v1, v2] W fun e W' => e = .returned (.bool true) ∧ Below W.heap.size W W' := by
  obtain ⟨r, rfl, hr⟩ := a0
  obtain ⟨zs, rfl, hz, _⟩ := a1
  obtain ⟨A, c, rows, rfl, h1, h2, h3, h4⟩ := a2
  obtain ⟨i, y, x, u, rfl⟩ : ∃ i r x s, zs = [i, r, x, s] := by
    match zs, hz with
    | [i, r, x, s], _ => exact ⟨i, r, x, s, rfl⟩
  obtain ⟨ps, e1, e2, e3⟩ := rows_pt rows h4
  rw [← e1, ← e2] at h3
  rw [← e2] at h1 ⊢
  obtain ⟨l, e, g1, g2⟩ := rw_pt hr
  rw [e]
  exact tokenMakes_main W r.A A r.c c l i y x u g1 g2 ps ⟨h3, fun p hp => (e3 p hp).1⟩ (fun p hp => (e3 p hp).2) (by unfold maxLen at h2; omega)
end Go.Proofs.Ytghcdffpplimoaa
