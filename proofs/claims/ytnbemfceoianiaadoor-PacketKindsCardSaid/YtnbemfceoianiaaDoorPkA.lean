/- Pk4. Pk5. -/
import Derived.Test.YtnbemfceoianiaaDoorPk1
/- Packets: To and Of. -/
namespace Go.Proofs.YtnbemfceoianiaaDoor
set_option linter.unusedVariables false
set_option linter.unusedSimpArgs false
open Go.RowKit
abbrev Y41 : Array Value := #[.int .i64 0, .int .i64 0, .int .i64 0, .int .i64 0, .int .i64 0, .int .i64 0, .int .i64 0, .int .i64 0, .slice none 0 0, .int .u8 0, .int .u8 0, .int .u8 0, .int .u8 0, .int .u8 0, .int .u8 0, .int .u8 0, .int .u8 0, .int .u8 0, .int .u8 0, .int .u8 0, .int .u8 0, .int .u8 0, .int .u8 0, .int .u8 0, .int .u8 0, .int .u8 0, .int .u8 0, .int .u8 0, .int .u8 0, .int .u8 0, .int .u8 0, .int .u8 0, .int .u8 0, .int .u8 0, .int .u8 0, .int .u8 0, .int .u8 0, .int .u8 0, .int .u8 0, .int .u8 0, .int .u8 0]
theorem y41_k {p : Pk} (h : p.T.length = 32) : Y41.size = (pkc p).size := by rw [pkc_size h]; rfl
theorem el_u8p : El Tryd.prog 30 5 1 1 := El.of Tryd.underlying30 (z := .int .u8 0) (by kernel_rfl) rfl (by decide)
theorem Mst.emptyP {W w w2 : World} {bl : Bl} {ow : List Ro} {e : TypeId} (h : Mst W w bl ow) (hw : w.alloc (.cells #[] e) = w2) : ∃ g, w.heap.size = g ∧ Mst W w2 bl (⟨e, 1, .slice (some ⟨g, 0, none⟩) 0 0, 0, []⟩ :: ow) := by
  subst hw
  exact ⟨_, rfl, h.newrow e 1 0 0 #[] (Nat.le_refl _) (by decide) rfl⟩
theorem to05p (i r x s : Int) (w : World) : Calls Tryd.prog 10 #[.agg #[.int .i64 i, .int .i64 r, .int .i64 x, .int .i64 s]] w fun e w' => e = .returned (.agg #[.int .i64 i, .int .i64 r, .int .i64 x, .int .i64 s]) ∧ Below w.heap.size w w' := by
  go_enter Tryd.func10, Tryd.ntmps10
  go_wp2
  exact bodyPost_ret (v := .agg #[.int .i64 i, .int .i64 r, .int .i64 x, .int .i64 s]) (by simp [results, Tryd.results10, go_sem]) rfl ⟨rfl, ((Below.refl _ _).alloc (Nat.le_refl _) _).alloc (by simp) _⟩
theorem to12p (b c : Int) (w : World) : Calls Tryd.prog 11 #[.agg #[.int .i64 b, .int .i64 c]] w fun e w' => e = .returned (.agg #[.int .i64 b, .int .i64 c]) ∧ Below w.heap.size w w' := by
  go_enter Tryd.func11, Tryd.ntmps11
  go_wp2
  exact bodyPost_ret (v := .agg #[.int .i64 b, .int .i64 c]) (by simp [results, Tryd.results11, go_sem]) rfl ⟨rfl, ((Below.refl _ _).alloc (Nat.le_refl _) _).alloc (by simp) _⟩
theorem Rd.take8p {w : World} {B : Nat} {A : Option Addr} {l : List UInt8} {n : Nat} (h : Rd w B 1 A n (by8 l)) (hn : l.length = n) (m k : Nat) (hm : (l.take m).length = k) : Rd w B 1 A k (by8 (l.take m)) := by
  subst hn hm
  refine ⟨by simp [by8], fun h0 => ?_⟩
  obtain ⟨b, o, e, hb, hc⟩ := h.2 (by simp at h0; omega)
  refine ⟨b, o, e, hb, fun j u hu => hc j u ?_⟩
  have e : by8 (l.take m) = (by8 l).take m := by simp [by8, List.map_take]
  rw [e, List.getElem?_take] at hu
  split at hu
  · exact hu
  · cases hu
set_option maxRecDepth 100000 in
set_option maxHeartbeats 8000000 in
theorem to14_any (W w : World) (bl : Bl) (ow : List Ro) (hM : Mst W w bl ow) (p : Pk) (hT : p.T.length = 32) (hs : Src W bl ow 1 p.A p.l.length (by8 p.l)) (hc : p.l.length ≤ p.cp) (hcm : p.cp ≤ 9223372036854775807) (N : Nat) (hN : (p.l.take 520).length = N) :
    Calls Tryd.prog 4 #[.agg (pkc p)] w fun e w' => ∃ A' c', e = .returned (.agg (pkc { p with A := A', l := p.l.take 520, cp := c' })) ∧ Mst W w' bl (⟨5, 1, .slice A' N c', N, by8 (p.l.take 520)⟩ :: ow) := by
  have m1 := (hM.new 38 (pkc p)).new 33 Y41
  rw [show (w.alloc (.cells (pkc p) 38)).heap.size = w.heap.size + 1 by simp] at m1
  obtain ⟨L, hL⟩ : ∃ L, p.l.length = L := ⟨_, rfl⟩
  have M1 := Lib.hid m1
  have HT := Lib.hid hT
  have HT2 := Lib.hid (show ∀ A2 c2, ({ p with A := A2, l := p.l.take 520, cp := c2 } : Pk).T.length = 32 from fun _ _ => hT)
  have HCE := Lib.hid (show ∀ w' x bl' ow', Mst W w' (x :: (w.heap.size, 38, pkc p) :: bl') ow' → (w'.cell? ⟨w.heap.size, 0, none⟩ = some (.int .i64 p.k) ∧ w'.cell? ⟨w.heap.size, 1, none⟩ = some (.int .i64 p.i) ∧ w'.cell? ⟨w.heap.size, 2, none⟩ = some (.int .i64 p.r) ∧ w'.cell? ⟨w.heap.size, 3, none⟩ = some (.int .i64 p.x) ∧ w'.cell? ⟨w.heap.size, 4, none⟩ = some (.int .i64 p.s) ∧ w'.cell? ⟨w.heap.size, 5, none⟩ = some (.int .i64 p.t) ∧ w'.cell? ⟨w.heap.size, 6, none⟩ = some (.int .i64 p.b) ∧ w'.cell? ⟨w.heap.size, 7, none⟩ = some (.int .i64 p.c) ∧ w'.cell? ⟨w.heap.size, 8, none⟩ = some (.slice p.A L p.cp)) ∧ w'.rangeAt w.heap.size 9 (by8 p.T) from fun w' x bl' ow' h => by
    have q := pkc_cells (h.blk [x])
    rw [hL] at q
    exact ⟨q, pkc_range (h.blk [x])⟩)
  have HCL := Lib.hid (to05p p.i p.r p.x p.s)
  have HNO := Lib.hid (to12p p.b p.c)
  have HBU := Lib.hid (show ∀ A2 N2 c2 w, N2 = N → (Instr.build 33 #[(0, .int .i64 p.k), (1, .agg #[.int .i64 p.i, .int .i64 p.r, .int .i64 p.x, .int .i64 p.s]), (2, .int .i64 p.t), (3, .agg #[.int .i64 p.b, .int .i64 p.c]), (4, .slice A2 N2 c2), (5, .agg (by8 p.T).toArray)]).run Tryd.prog w = .ok (.agg (pkc { p with A := A2, l := p.l.take 520, cp := c2 })) w from fun A2 N2 c2 w h => by
    rw [h, ← hN]
    exact build_pk hT p.k p.i p.r p.x p.s p.t p.b p.c A2 (p.l.take 520) c2 w)
  have HSR := Lib.hid (show ∀ w' bl' ow', Mst W w' bl' ow' → (∀ x ∈ bl, x ∈ bl') → (∀ x ∈ ow, x ∈ ow') → Rd w' w'.heap.size 1 p.A N (by8 (p.l.take 520)) from fun w' bl' ow' h h1 h2 => (h.src (hs.sub h1 h2)).take8p rfl 520 N hN)
  have hNN : (L ≤ 520 ∧ N = L) ∨ (520 < L ∧ N = 520) := by
    rw [← hN, ← hL, List.length_take]
    omega
  have hN5 : N ≤ 520 := by omega
  have hmin : (if (520 : Int) < (L : Int) then (520 : Int) else (L : Int)) = (N : Int) := by split <;> omega
  have i1 : (0 : Int) ≤ (N : Int) := by omega
  have i2 : (N : Int) ≤ 520 := by omega
  have i3 : (N : Int) ≤ p.cp := by omega
  rw [hL] at hc
  clear m1 hM hT hs hc hcm hN hL hNN
  go_enter Tryd.func4, Tryd.ntmps4
  go_upto_region 1 with fail
  generalize hw1 : World.alloc (World.alloc _ _) _ = w1
  have Mq := Lib.hid (M1.out.toVP hw1 rfl)
  clear hw1 M1
  have K0 := Lib.hid (HCE.out _ _ _ _ Mq.out.drew)
  refine wp_region_held_drew (S := fun w' => (w'.cell? ⟨w.heap.size, 0, none⟩ = some (.int .i64 p.k) ∧ w'.cell? ⟨w.heap.size, 1, none⟩ = some (.int .i64 p.i) ∧ w'.cell? ⟨w.heap.size, 2, none⟩ = some (.int .i64 p.r) ∧ w'.cell? ⟨w.heap.size, 3, none⟩ = some (.int .i64 p.x) ∧ w'.cell? ⟨w.heap.size, 4, none⟩ = some (.int .i64 p.s) ∧ w'.cell? ⟨w.heap.size, 5, none⟩ = some (.int .i64 p.t) ∧ w'.cell? ⟨w.heap.size, 6, none⟩ = some (.int .i64 p.b) ∧ w'.cell? ⟨w.heap.size, 7, none⟩ = some (.int .i64 p.c) ∧ w'.cell? ⟨w.heap.size, 8, none⟩ = some (.slice p.A L p.cp)) ∧ w'.rangeAt w.heap.size 9 (by8 p.T)) (by kernel_rfl) ?_ (fun hHeld => ?_)
  · exact K0.out
  generalize hw7 : World.drew _ = w7 at hHeld ⊢
  have Mq := Lib.hid (Mq.out.drew.toVP hw7 rfl)
  clear hw7
  refine wpAnyH_take (i := 0) (v := ?_) rfl (by kernel_rfl) (by kernel_rfl) (by kernel_rfl) (fun _ _ _ h => h) (Or.inl ⟨by rfl, ?_⟩) (by assumption) ?_
  rotate_left
  · intro w hSw; (try dsimp only at hSw); go_split_ands; go_simp; with_reducible rfl
  change wpAnyH _ _ _ _ _ _ _ (Act.put _ (some 3) _) _
  simp only [Act.put, List.setIfInBounds_toArray, List.set_cons_zero, List.set_cons_succ, Array.toArray_toList]
  refine wpAnyH_take (i := 1) (v := ?_) rfl (by kernel_rfl) (by kernel_rfl) (by kernel_rfl) (fun _ _ _ h => h) (Or.inl ⟨by rfl, ?_⟩) (by assumption) ?_
  rotate_left
  · intro w hSw; (try dsimp only at hSw); go_split_ands; go_simp; with_reducible rfl
  change wpAnyH _ _ _ _ _ _ _ (Act.put _ (some 4) _) _
  simp only [Act.put, List.setIfInBounds_toArray, List.set_cons_zero, List.set_cons_succ, Array.toArray_toList]
  refine wpAnyH_take (i := 2) (v := ?_) rfl (by kernel_rfl) (by kernel_rfl) (by kernel_rfl) (fun _ _ _ h => h) (Or.inl ⟨by rfl, ?_⟩) (by assumption) ?_
  rotate_left
  · intro w hSw; (try dsimp only at hSw); go_split_ands; go_simp; with_reducible rfl
  change wpAnyH _ _ _ _ _ _ _ (Act.put _ (some 5) _) _
  simp only [Act.put, List.setIfInBounds_toArray, List.set_cons_zero, List.set_cons_succ, Array.toArray_toList]
  refine wpAnyH_take (i := 3) (v := ?_) rfl (by kernel_rfl) (by kernel_rfl) (by kernel_rfl) (fun _ _ _ h => h) (Or.inl ⟨by rfl, ?_⟩) (by assumption) ?_
  rotate_left
  · intro w hSw; (try dsimp only at hSw); go_split_ands; go_simp; with_reducible rfl
  change wpAnyH _ _ _ _ _ _ _ (Act.put _ (some 6) _) _
  simp only [Act.put, List.setIfInBounds_toArray, List.set_cons_zero, List.set_cons_succ, Array.toArray_toList]
  refine wpAnyH_take (i := 5) (v := ?_) rfl (by kernel_rfl) (by kernel_rfl) (by kernel_rfl) (fun _ _ _ h => h) (Or.inl ⟨by rfl, ?_⟩) (by assumption) ?_
  rotate_left
  · intro w hSw; (try dsimp only at hSw); go_split_ands; go_simp; with_reducible rfl
  change wpAnyH _ _ _ _ _ _ _ (Act.put _ (some 8) _) _
  simp only [Act.put, List.setIfInBounds_toArray, List.set_cons_zero, List.set_cons_succ, Array.toArray_toList]
  refine wpAnyH_take (i := 6) (v := ?_) rfl (by kernel_rfl) (by kernel_rfl) (by kernel_rfl) (fun _ _ _ h => h) (Or.inl ⟨by rfl, ?_⟩) (by assumption) ?_
  rotate_left
  · intro w hSw; (try dsimp only at hSw); go_split_ands; go_simp; with_reducible rfl
  change wpAnyH _ _ _ _ _ _ _ (Act.put _ (some 9) _) _
  simp only [Act.put, List.setIfInBounds_toArray, List.set_cons_zero, List.set_cons_succ, Array.toArray_toList]
  refine wpAnyH_take (i := 7) (v := ?_) rfl (by kernel_rfl) (by kernel_rfl) (by kernel_rfl) (fun _ _ _ h => h) (Or.inl ⟨by rfl, ?_⟩) (by assumption) ?_
  rotate_left
  · intro w hSw; (try dsimp only at hSw); go_split_ands; go_simp; with_reducible rfl
  change wpAnyH _ _ _ _ _ _ _ (Act.put _ (some 10) _) _
  simp only [Act.put, List.setIfInBounds_toArray, List.set_cons_zero, List.set_cons_succ, Array.toArray_toList]
  refine wpAnyH_take (i := 8) (v := ?_) rfl (by kernel_rfl) (by kernel_rfl) (by kernel_rfl) (fun _ _ _ h => h) (Or.inl ⟨by rfl, ?_⟩) (by assumption) ?_
  rotate_left
  · intro w hSw; (try dsimp only at hSw); go_split_ands; go_simp; with_reducible rfl
  change wpAnyH _ _ _ _ _ _ _ (Act.put _ (some 11) _) _
  simp only [Act.put, List.setIfInBounds_toArray, List.set_cons_zero, List.set_cons_succ, Array.toArray_toList]
  refine wpAnyH_take (i := 11) (v := ?_) rfl (by kernel_rfl) (by kernel_rfl) (by kernel_rfl) (fun _ _ _ h => h) (Or.inl ⟨by rfl, ?_⟩) (by assumption) ?_
  rotate_left
  · intro w hSw; (try dsimp only at hSw); go_split_ands; go_simp; with_reducible rfl
  change wpAnyH _ _ _ _ _ _ _ (Act.put _ (some 14) _) _
  simp only [Act.put, List.setIfInBounds_toArray, List.set_cons_zero, List.set_cons_succ, Array.toArray_toList]
  refine wpAnyH_take (i := 12) (v := ?_) rfl (by kernel_rfl) (by kernel_rfl) (by kernel_rfl) (fun _ _ _ h => h) (Or.inl ⟨by rfl, ?_⟩) (by assumption) ?_
  rotate_left
  · intro w hSw; (try dsimp only at hSw); go_split_ands; go_simp; with_reducible rfl
  change wpAnyH _ _ _ _ _ _ _ (Act.put _ (some 15) _) _
  simp only [Act.put, List.setIfInBounds_toArray, List.set_cons_zero, List.set_cons_succ, Array.toArray_toList]
  refine wpAnyH_take (i := 13) (v := ?_) rfl (by kernel_rfl) (by kernel_rfl) (by kernel_rfl) (fun _ _ _ h => h) (Or.inl ⟨by rfl, ?_⟩) (by assumption) ?_
  rotate_left
  · intro w hSw; (try dsimp only at hSw); go_split_ands; go_simp; with_reducible rfl
  change wpAnyH _ _ _ _ _ _ _ (Act.put _ (some 16) _) _
  simp only [Act.put, List.setIfInBounds_toArray, List.set_cons_zero, List.set_cons_succ, Array.toArray_toList]
  refine wpAnyH_take (i := 14) (v := ?_) rfl (by kernel_rfl) (by kernel_rfl) (by kernel_rfl) (fun _ _ _ h => h) (Or.inl ⟨by rfl, ?_⟩) (by assumption) ?_
  rotate_left
  · intro w hSw; (try dsimp only at hSw); go_split_ands; go_simp; with_reducible rfl
  change wpAnyH _ _ _ _ _ _ _ (Act.put _ (some 17) _) _
  simp only [Act.put, List.setIfInBounds_toArray, List.set_cons_zero, List.set_cons_succ, Array.toArray_toList]
  refine wpAnyH_take (i := 15) (v := ?_) rfl (by kernel_rfl) (by kernel_rfl) (by kernel_rfl) (fun _ _ _ h => h) (Or.inl ⟨by rfl, ?_⟩) (by assumption) ?_
  rotate_left
  · intro w hSw; (try dsimp only at hSw); go_split_ands; go_simp; with_reducible rfl
  change wpAnyH _ _ _ _ _ _ _ (Act.put _ (some 18) _) _
  simp only [Act.put, List.setIfInBounds_toArray, List.set_cons_zero, List.set_cons_succ, Array.toArray_toList]
  refine wpAnyH_take (i := 16) (v := ?_) rfl (by kernel_rfl) (by kernel_rfl) (by kernel_rfl) (fun _ _ _ h => h) (Or.inl ⟨by rfl, ?_⟩) (by assumption) ?_
  rotate_left
  · intro w hSw; (try dsimp only at hSw); go_split_ands; go_simp; with_reducible rfl
  change wpAnyH _ _ _ _ _ _ _ (Act.put _ (some 19) _) _
  simp only [Act.put, List.setIfInBounds_toArray, List.set_cons_zero, List.set_cons_succ, Array.toArray_toList]
  refine wpAnyH_take (i := 17) (v := ?_) rfl (by kernel_rfl) (by kernel_rfl) (by kernel_rfl) (fun _ _ _ h => h) (Or.inl ⟨by rfl, ?_⟩) (by assumption) ?_
  rotate_left
  · intro w hSw; (try dsimp only at hSw); go_split_ands; go_simp; with_reducible rfl
  change wpAnyH _ _ _ _ _ _ _ (Act.put _ (some 20) _) _
  simp only [Act.put, List.setIfInBounds_toArray, List.set_cons_zero, List.set_cons_succ, Array.toArray_toList]
  refine wpAnyH_take (i := 19) (v := ?_) rfl (by kernel_rfl) (by kernel_rfl) (by kernel_rfl) (fun _ _ _ h => h) (Or.inl ⟨by rfl, ?_⟩) (by assumption) ?_
  rotate_left
  · intro w hSw; (try dsimp only at hSw); go_split_ands; go_simp; with_reducible rfl
  change wpAnyH _ _ _ _ _ _ _ (Act.put _ (some 22) _) _
  simp only [Act.put, List.setIfInBounds_toArray, List.set_cons_zero, List.set_cons_succ, Array.toArray_toList]
  refine wpAnyH_take (i := 20) rfl (by kernel_rfl) (by kernel_rfl) (by kernel_rfl) (fun _ _ _ h => h) (yieldsIf_load_mid (by rfl) _ _ rfl _ _ rfl _ _ (fun w hw => hw.2) Tryd.underlying31 rfl (info_tag HT.out)) (by assumption) ?_
  change wpAnyH _ _ _ _ _ _ _ (Act.put _ (some 23) _) _
  simp only [Act.put, List.setIfInBounds_toArray, List.set_cons_zero, List.set_cons_succ, Array.toArray_toList]
  refine wpAnyH_ready (rs := [4, 10]) (by kernel_rfl) (by simp) ?_
  refine (AllReadyH.cons rfl (fun K hK => ?_) (AllReadyH.cons rfl (fun K hK => ?_) AllReadyH.nil))
  · skip
    go_simp
    (with_reducible refine (HCL.out _).mono ?_); rintro r wq ⟨rfl, hb⟩; have Mq := Lib.hid (Mq.out.below hb); clear hb
    go_wp2_with fail
    refine hK.out _ _ (by exact HCE.out _ _ _ _ Mq.out) (fun hHeld => ?_)
    clear hK K
    refine wpAnyH_ready (rs := [9, 10]) (by kernel_rfl) (by simp) ?_
    refine (AllReadyH.cons rfl (fun K hK => ?_) (AllReadyH.cons rfl (fun K hK => ?_) AllReadyH.nil))
    · skip
      go_simp
      (with_reducible refine (HNO.out _).mono ?_); rintro r wq ⟨rfl, hb⟩; have Mq := Lib.hid (Mq.out.below hb); clear hb
      go_wp2_with fail
      refine hK.out _ _ (by exact HCE.out _ _ _ _ Mq.out) (fun hHeld => ?_)
      clear hK K
      refine wpAnyH_ready (rs := [10]) (by kernel_rfl) (by simp) ?_
      refine (AllReadyH.cons rfl (fun K hK => ?_) AllReadyH.nil)
      go_simp; generalize hwq : World.alloc _ _ = wq; obtain ⟨g4, hg4, mq⟩ := Mq.out.emptyP hwq; rw [hg4]; have Mq := Lib.hid mq; clear hwq hg4 mq
      refine hK.out _ _ (by exact HCE.out _ _ _ _ Mq.out) (fun hHeld => ?_)
      clear hK K
      refine wpAnyH_ready (rs := [18]) (by kernel_rfl) (by simp) ?_
      refine (AllReadyH.cons rfl (fun K hK => ?_) AllReadyH.nil)
      refine step_appEP rfl _ _ 30 rfl [] Mq.out el_u8p rfl _ _ _ _ (by8 (p.l.take 520)) rfl (HSR.out _ _ _ Mq.out (fun x hx => List.mem_cons_of_mem _ (List.mem_cons_of_mem _ hx)) (fun x hx => List.mem_cons_of_mem _ hx)) (by8_one _) (by unfold maxLen; omega) (by omega) ?_; intro A2 c2 w8 N2 X2 hn2 hx2 mq; have Mq := Lib.hid mq; have HN2 := Lib.hid (show N2 = N by omega); have HX2 := Lib.hid (show X2 = by8 (p.l.take 520) from hx2); clear mq hn2 hx2
      refine hK.out _ _ (by exact HCE.out _ _ _ _ Mq.out) (fun hHeld => ?_)
      clear hK K
      (try (change wpAnyH _ _ _ _ _ _ _ (Act.put _ (some 21) _) _; simp only [Act.put, List.setIfInBounds_toArray, List.set_cons_zero, List.set_cons_succ, Array.toArray_toList]))
      refine wpAnyH_ready (rs := [21]) (by kernel_rfl) (by simp) ?_
      refine (AllReadyH.cons rfl (fun K hK => ?_) AllReadyH.nil)
      refine step_buildP rfl _ _ rfl [(0, .int .i64 p.k), (1, .agg #[.int .i64 p.i, .int .i64 p.r, .int .i64 p.x, .int .i64 p.s]), (2, .int .i64 p.t), (3, .agg #[.int .i64 p.b, .int .i64 p.c]), (4, .slice A2 N2 c2), (5, .agg (by8 p.T).toArray)] rfl _ (HBU.out _ _ _ _ HN2.out) ?_
      refine hK.out _ _ (by exact HCE.out _ _ _ _ Mq.out) (fun hHeld => ?_)
      clear hK K
      (try (change wpAnyH _ _ _ _ _ _ _ (Act.put _ (some 24) _) _; simp only [Act.put, List.setIfInBounds_toArray, List.set_cons_zero, List.set_cons_succ, Array.toArray_toList]))
      refine wpAnyH_ready (rs := [22]) (by kernel_rfl) (by simp) ?_
      refine (AllReadyH.cons rfl (fun K hK => ?_) AllReadyH.nil)
      refine step_store_rowP rfl _ _ _ rfl (w.heap.size + 1) _ rfl rfl 33 _ (Mq.out.blk []) (info_pk (HT2.out A2 c2)) (y41_k (HT2.out A2 c2)) (pkc_one _) ?_; have Mq := Lib.hid (Mst.setRow (bl := []) [] Mq.out (pkc { p with A := A2, l := p.l.take 520, cp := c2 }))
      refine hK.out _ _ (by exact HCE.out _ _ _ _ Mq.out) (fun hHeld => ?_)
      clear hK K
      refine wpAnyH_done (by kernel_rfl) ?_ _
      go_wp2
      exact bodyPost_ret (results_cell_row rfl _ _ (w.heap.size + 1) 33 _ (0, 0) _ rfl (Mq.out.blk []) Tryd.underlying33 rfl (info_pk (HT2.out A2 c2))) rfl ⟨A2, c2, rfl, by have m := (Mq.out).sub (bl' := bl) (List.Sublist.cons _ (List.sublist_cons_self _ _)) (List.Sublist.refl _); rw [HN2.out, HX2.out] at m; exact m⟩
    · skip
      go_simp; generalize hwq : World.alloc _ _ = wq; obtain ⟨g4, hg4, mq⟩ := Mq.out.emptyP hwq; rw [hg4]; have Mq := Lib.hid mq; clear hwq hg4 mq
      refine hK.out _ _ (by exact HCE.out _ _ _ _ Mq.out) (fun hHeld => ?_)
      clear hK K
      refine wpAnyH_ready (rs := [9]) (by kernel_rfl) (by simp) ?_
      refine (AllReadyH.cons rfl (fun K hK => ?_) AllReadyH.nil)
      go_simp
      (with_reducible refine (HNO.out _).mono ?_); rintro r wq ⟨rfl, hb⟩; have Mq := Lib.hid (Mq.out.below hb); clear hb
      go_wp2_with fail
      refine hK.out _ _ (by exact HCE.out _ _ _ _ Mq.out) (fun hHeld => ?_)
      clear hK K
      refine wpAnyH_ready (rs := [18]) (by kernel_rfl) (by simp) ?_
      refine (AllReadyH.cons rfl (fun K hK => ?_) AllReadyH.nil)
      refine step_appEP rfl _ _ 30 rfl [] Mq.out el_u8p rfl _ _ _ _ (by8 (p.l.take 520)) rfl (HSR.out _ _ _ Mq.out (fun x hx => List.mem_cons_of_mem _ (List.mem_cons_of_mem _ hx)) (fun x hx => List.mem_cons_of_mem _ hx)) (by8_one _) (by unfold maxLen; omega) (by omega) ?_; intro A2 c2 w8 N2 X2 hn2 hx2 mq; have Mq := Lib.hid mq; have HN2 := Lib.hid (show N2 = N by omega); have HX2 := Lib.hid (show X2 = by8 (p.l.take 520) from hx2); clear mq hn2 hx2
      refine hK.out _ _ (by exact HCE.out _ _ _ _ Mq.out) (fun hHeld => ?_)
      clear hK K
      (try (change wpAnyH _ _ _ _ _ _ _ (Act.put _ (some 21) _) _; simp only [Act.put, List.setIfInBounds_toArray, List.set_cons_zero, List.set_cons_succ, Array.toArray_toList]))
      refine wpAnyH_ready (rs := [21]) (by kernel_rfl) (by simp) ?_
      refine (AllReadyH.cons rfl (fun K hK => ?_) AllReadyH.nil)
      refine step_buildP rfl _ _ rfl [(0, .int .i64 p.k), (1, .agg #[.int .i64 p.i, .int .i64 p.r, .int .i64 p.x, .int .i64 p.s]), (2, .int .i64 p.t), (3, .agg #[.int .i64 p.b, .int .i64 p.c]), (4, .slice A2 N2 c2), (5, .agg (by8 p.T).toArray)] rfl _ (HBU.out _ _ _ _ HN2.out) ?_
      refine hK.out _ _ (by exact HCE.out _ _ _ _ Mq.out) (fun hHeld => ?_)
      clear hK K
      (try (change wpAnyH _ _ _ _ _ _ _ (Act.put _ (some 24) _) _; simp only [Act.put, List.setIfInBounds_toArray, List.set_cons_zero, List.set_cons_succ, Array.toArray_toList]))
      refine wpAnyH_ready (rs := [22]) (by kernel_rfl) (by simp) ?_
      refine (AllReadyH.cons rfl (fun K hK => ?_) AllReadyH.nil)
      refine step_store_rowP rfl _ _ _ rfl (w.heap.size + 1) _ rfl rfl 33 _ (Mq.out.blk []) (info_pk (HT2.out A2 c2)) (y41_k (HT2.out A2 c2)) (pkc_one _) ?_; have Mq := Lib.hid (Mst.setRow (bl := []) [] Mq.out (pkc { p with A := A2, l := p.l.take 520, cp := c2 }))
      refine hK.out _ _ (by exact HCE.out _ _ _ _ Mq.out) (fun hHeld => ?_)
      clear hK K
      refine wpAnyH_done (by kernel_rfl) ?_ _
      go_wp2
      exact bodyPost_ret (results_cell_row rfl _ _ (w.heap.size + 1) 33 _ (0, 0) _ rfl (Mq.out.blk []) Tryd.underlying33 rfl (info_pk (HT2.out A2 c2))) rfl ⟨A2, c2, rfl, by have m := (Mq.out).sub (bl' := bl) (List.Sublist.cons _ (List.sublist_cons_self _ _)) (List.Sublist.refl _); rw [HN2.out, HX2.out] at m; exact m⟩
  · skip
    go_simp; generalize hwq : World.alloc _ _ = wq; obtain ⟨g4, hg4, mq⟩ := Mq.out.emptyP hwq; rw [hg4]; have Mq := Lib.hid mq; clear hwq hg4 mq
    refine hK.out _ _ (by exact HCE.out _ _ _ _ Mq.out) (fun hHeld => ?_)
    clear hK K
    refine wpAnyH_ready (rs := [4]) (by kernel_rfl) (by simp) ?_
    refine (AllReadyH.cons rfl (fun K hK => ?_) AllReadyH.nil)
    go_simp
    (with_reducible refine (HCL.out _).mono ?_); rintro r wq ⟨rfl, hb⟩; have Mq := Lib.hid (Mq.out.below hb); clear hb
    go_wp2_with fail
    refine hK.out _ _ (by exact HCE.out _ _ _ _ Mq.out) (fun hHeld => ?_)
    clear hK K
    refine wpAnyH_ready (rs := [9]) (by kernel_rfl) (by simp) ?_
    refine (AllReadyH.cons rfl (fun K hK => ?_) AllReadyH.nil)
    go_simp
    (with_reducible refine (HNO.out _).mono ?_); rintro r wq ⟨rfl, hb⟩; have Mq := Lib.hid (Mq.out.below hb); clear hb
    go_wp2_with fail
    refine hK.out _ _ (by exact HCE.out _ _ _ _ Mq.out) (fun hHeld => ?_)
    clear hK K
    refine wpAnyH_ready (rs := [18]) (by kernel_rfl) (by simp) ?_
    refine (AllReadyH.cons rfl (fun K hK => ?_) AllReadyH.nil)
    refine step_appEP rfl _ _ 30 rfl [] Mq.out el_u8p rfl _ _ _ _ (by8 (p.l.take 520)) rfl (HSR.out _ _ _ Mq.out (fun x hx => List.mem_cons_of_mem _ (List.mem_cons_of_mem _ hx)) (fun x hx => List.mem_cons_of_mem _ hx)) (by8_one _) (by unfold maxLen; omega) (by omega) ?_; intro A2 c2 w8 N2 X2 hn2 hx2 mq; have Mq := Lib.hid mq; have HN2 := Lib.hid (show N2 = N by omega); have HX2 := Lib.hid (show X2 = by8 (p.l.take 520) from hx2); clear mq hn2 hx2
    refine hK.out _ _ (by exact HCE.out _ _ _ _ Mq.out) (fun hHeld => ?_)
    clear hK K
    (try (change wpAnyH _ _ _ _ _ _ _ (Act.put _ (some 21) _) _; simp only [Act.put, List.setIfInBounds_toArray, List.set_cons_zero, List.set_cons_succ, Array.toArray_toList]))
    refine wpAnyH_ready (rs := [21]) (by kernel_rfl) (by simp) ?_
    refine (AllReadyH.cons rfl (fun K hK => ?_) AllReadyH.nil)
    refine step_buildP rfl _ _ rfl [(0, .int .i64 p.k), (1, .agg #[.int .i64 p.i, .int .i64 p.r, .int .i64 p.x, .int .i64 p.s]), (2, .int .i64 p.t), (3, .agg #[.int .i64 p.b, .int .i64 p.c]), (4, .slice A2 N2 c2), (5, .agg (by8 p.T).toArray)] rfl _ (HBU.out _ _ _ _ HN2.out) ?_
    refine hK.out _ _ (by exact HCE.out _ _ _ _ Mq.out) (fun hHeld => ?_)
    clear hK K
    (try (change wpAnyH _ _ _ _ _ _ _ (Act.put _ (some 24) _) _; simp only [Act.put, List.setIfInBounds_toArray, List.set_cons_zero, List.set_cons_succ, Array.toArray_toList]))
    refine wpAnyH_ready (rs := [22]) (by kernel_rfl) (by simp) ?_
    refine (AllReadyH.cons rfl (fun K hK => ?_) AllReadyH.nil)
    refine step_store_rowP rfl _ _ _ rfl (w.heap.size + 1) _ rfl rfl 33 _ (Mq.out.blk []) (info_pk (HT2.out A2 c2)) (y41_k (HT2.out A2 c2)) (pkc_one _) ?_; have Mq := Lib.hid (Mst.setRow (bl := []) [] Mq.out (pkc { p with A := A2, l := p.l.take 520, cp := c2 }))
    refine hK.out _ _ (by exact HCE.out _ _ _ _ Mq.out) (fun hHeld => ?_)
    clear hK K
    refine wpAnyH_done (by kernel_rfl) ?_ _
    go_wp2
    exact bodyPost_ret (results_cell_row rfl _ _ (w.heap.size + 1) 33 _ (0, 0) _ rfl (Mq.out.blk []) Tryd.underlying33 rfl (info_pk (HT2.out A2 c2))) rfl ⟨A2, c2, rfl, by have m := (Mq.out).sub (bl' := bl) (List.Sublist.cons _ (List.sublist_cons_self _ _)) (List.Sublist.refl _); rw [HN2.out, HX2.out] at m; exact m⟩
end Go.Proofs.YtnbemfceoianiaaDoor

/- Packets: Of. -/
namespace Go.Proofs.YtnbemfceoianiaaDoor
set_option linter.unusedVariables false
set_option linter.unusedSimpArgs false
open Go.RowKit
end Go.Proofs.YtnbemfceoianiaaDoor
