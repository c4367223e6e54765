/- Contracts of package mac: tag, Tag, Check. -/
import Derived.Test.YthnaobolmgcclaaMac2
namespace Go.Proofs.Ythnaobolmgcclaa
set_option linter.unusedVariables false
set_option linter.unusedSimpArgs false
open Go.RowKit

/-- The tag of bytes under a key. -/
def macT (key b : List UInt8) : List UInt8 := sha (fillB key 92 ++ sha (fillB key 54 ++ b))
theorem macT_len (key b : List UInt8) : (macT key b).length = 32 := rfl
theorem RunX.addr {W w w' : World} {xb : Bl} {xr : List Ro} {g : Nat} {st : Option (List UInt8)} {e size n : Nat} {v : Value} {xs : List Value} (h : RunX W w xb xr g st) (hf : Fresh w w' e size v n xs) : RunX W w' xb (⟨e, size, v, n, xs⟩ :: xr) g st := by
  obtain ⟨x, hr, h1, h2⟩ := h
  exact ⟨x, hr, h1, (h2.addr hf).perm (List.Perm.refl _) List.perm_middle.symm⟩
theorem Mst.two {W w : World} {bl : Bl} {ow : List Ro} (h : Mst W w bl ow) {p q : Pt} (h1 : Src W bl ow 1 p.A p.l.length (by8 p.l)) (h2 : Src W bl ow 1 q.A q.l.length (by8 q.l)) :
    Mst W (w.alloc (.cells #[p.v, q.v] 26)) bl (⟨26, 1, .slice (some ⟨w.heap.size, 0, none⟩) 2 2, 2, [p.v, q.v]⟩ :: ow) ∧
    Pts (w.alloc (.cells #[p.v, q.v] 26)) (some ⟨w.heap.size, 0, none⟩) [p, q] := by
  have m1 := h.newrow 26 1 2 2 #[p.v, q.v] (Nat.le_refl _) (by decide) rfl
  refine ⟨m1, m1.src (m1.rowSrc (List.mem_cons_self ..)), fun x hx => ?_⟩
  have hx2 : x = p ∨ x = q := by simpa using hx
  rcases hx2 with rfl | rfl
  · exact m1.src (h1.cr _)
  · exact m1.src (h2.cr _)
theorem Mst.twoE {W w w2 : World} {bl : Bl} {ow : List Ro} (h : Mst W w bl ow) {A1 A2 : Option Addr} {l1 l2 : List UInt8} {n1 n2 : Nat} (e1 : l1.length = n1) (e2 : l2.length = n2) (h1 : Src W bl ow 1 A1 n1 (by8 l1)) (h2 : Src W bl ow 1 A2 n2 (by8 l2))
    {c1 c2 : Nat} (hw : w.alloc (.cells #[.slice A1 n1 c1, .slice A2 n2 c2] 26) = w2) : ∃ y, Mst W w2 bl (y :: ow) ∧ Pts w2 (some ⟨w.heap.size, 0, none⟩) [⟨A1, c1, l1⟩, ⟨A2, c2, l2⟩] := by
  subst e1 e2 hw
  exact ⟨_, h.two (p := ⟨A1, c1, l1⟩) (q := ⟨A2, c2, l2⟩) h1 h2⟩
theorem Mst.oneE {W w w2 : World} {bl : Bl} {ow : List Ro} (h : Mst W w bl ow) {A1 : Option Addr} {l1 : List UInt8} {n1 : Nat} (e1 : l1.length = n1) (h1 : Src W bl ow 1 A1 n1 (by8 l1))
    {c1 : Nat} (hw : w.alloc (.cells #[.slice A1 n1 c1] 26) = w2) : ∃ y, Mst W w2 bl (y :: ow) ∧ Pts w2 (some ⟨w.heap.size, 0, none⟩) [⟨A1, c1, l1⟩] := by
  subst e1 hw
  exact ⟨_, h.one h1 c1⟩

set_option maxRecDepth 100000 in
set_option maxHeartbeats 1000000 in
theorem rtag_any (w : World) (A : Option Addr) (c : Nat) (key : List UInt8) (hr : RB w w.heap.size A key) (hk : key.length ≤ 100000) (A1 : Option Addr) (c1 : Nat) (ps : List Pt) (hp : Pts w A1 ps) (hn : ps.length ≤ 1000) (hl : (catP ps).length ≤ 800000) :
    Calls Try.prog 90 #[.slice A key.length c, .slice A1 ps.length c1] w fun e w' => e = .returned (.agg (b8a (macT key (catP ps)))) ∧ Below w.heap.size w w' := by
  obtain ⟨K1, hK1⟩ : ∃ K, sha (fillB key 54 ++ catP ps) = K := ⟨_, rfl⟩
  have hKl1 : K1.length = 32 := by rw [← hK1]; rfl
  obtain ⟨K2, hK2⟩ : ∃ K, macT key (catP ps) = K := ⟨_, rfl⟩
  have hKl2 : K2.length = 32 := by rw [← hK2]; rfl
  rw [hK2]
  have hK3 : sha (fillB key 92 ++ K1) = K2 := by rw [← hK2, ← hK1]; rfl
  have KL1 := Lib.hid hKl1
  have KL2 := Lib.hid hKl2
  have HF1 := Lib.hid (show ∀ (w' : World), Below w.heap.size w w' → Calls Try.prog 100 #[.slice A key.length c, .int .u8 54] w' fun e w2 => ∃ g, e = .returned (.slice (some ⟨g, 0, none⟩) 64 64) ∧ Fresh w' w2 5 1 (.slice (some ⟨g, 0, none⟩) 64 64) 64 (by8 (fillB key 54)) from fun (w' : World) (hb : Below w.heap.size w w') => filled_any w' A c key 54 ((hr.below hb).more hb.size) hk)
  have HF2 := Lib.hid (show ∀ (w' : World), Below w.heap.size w w' → Calls Try.prog 100 #[.slice A key.length c, .int .u8 92] w' fun e w2 => ∃ g, e = .returned (.slice (some ⟨g, 0, none⟩) 64 64) ∧ Fresh w' w2 5 1 (.slice (some ⟨g, 0, none⟩) 64 64) 64 (by8 (fillB key 92)) from fun (w' : World) (hb : Below w.heap.size w w') => filled_any w' A c key 92 ((hr.below hb).more hb.size) hk)
  have HPS := Lib.hid hp
  have m1 := (Mst.start w).new 54 Y32
  have m2 := m1.new 67 Z67
  rw [show (w.alloc (.cells Y32 54)).heap.size = w.heap.size + 1 by simp] at m2
  have R2 := Lib.hid (show RunX w _ [(w.heap.size, 54, Y32)] [] (w.heap.size + 1) none from ⟨_, [], ⟨none, 0, by rw [← Z67_eq], Src.nil_ _ _ _ _ _, Nat.le_refl _, by decide⟩, m2⟩)
  obtain ⟨L1, hL1⟩ : ∃ L, fillB key 54 = L := ⟨_, rfl⟩
  obtain ⟨L2, hL2⟩ : ∃ L, fillB key 92 = L := ⟨_, rfl⟩
  have hl1 : L1.length = 64 := by rw [← hL1, fillB_len]
  have hl2 : L2.length = 64 := by rw [← hL2, fillB_len]
  rw [hL1] at HF1 hK1
  rw [hL2] at HF2 hK3
  obtain ⟨T, hT⟩ : ∃ L, catP ps = L := ⟨_, rfl⟩
  rw [hT] at hl hK1
  obtain ⟨N, hN⟩ : ∃ n, key.length = n := ⟨_, rfl⟩
  obtain ⟨n, hN2⟩ : ∃ n, ps.length = n := ⟨_, rfl⟩
  rw [hN] at HF1 HF2 hk ⊢
  rw [hN2] at hn ⊢
  have LL1 := Lib.hid hl1
  have LL2 := Lib.hid hl2
  have HT := Lib.hid hT
  have HN2 := Lib.hid hN2
  have HK1 := Lib.hid hK1
  have HK3 := Lib.hid hK3
  clear hr hp m1 m2 hK1 hK2 hK3 hKl1 hKl2 hL1 hL2 hl1 hl2 hT hN hN2
  have HD2 := Lib.hid (show ∀ w' B (p q : Pt), p.l = L2 → q.l = K1 → Pts w' B [p, q] → Calls Try.prog 35 #[.slice B 2 2] w' fun e w2 => e = .returned (.agg (b8a K2)) ∧ Below w'.heap.size w' w2 from fun w' B p q h1 h2 h => by
    have := dsum_any w' B 2 _ h (by simp) (by simp [catP, h1, h2, LL2.out, KL1.out])
    rw [show catP [p, q] = L2 ++ K1 by simp [catP, h1, h2], HK3.out] at this
    exact this)
  go_enter Try.func90, Try.ntmps90
  go_wp2_with fail
  refine (HF1.out _ R2.out.bel).mono ?_
  rintro e w3 ⟨g3, rfl, hf3⟩
  have R3 := Lib.hid (R2.out.addr hf3)
  clear hf3
  go_wp2_with fail
  generalize hwq : World.alloc w3 _ = w4
  obtain ⟨y4, r4, hs4⟩ := R3.out.oneE LL1.out (R3.out.mst.rowSrc (List.mem_cons_self ..)) hwq
  have R4 := Lib.hid r4
  have HS4 := Lib.hid hs4
  clear r4 hs4 hwq
  have HA4 := Lib.hid (show Calls Try.prog 36 #[.pointer (some ⟨w.heap.size + 1, 0, none⟩), .slice (some ⟨w3.heap.size, 0, none⟩) 1 1] w4 fun e w' => e = .returned (.pointer (some ⟨w.heap.size + 1, 0, none⟩)) ∧ RunX w w' _ _ (w.heap.size + 1) (some L1) from by
    have := add_any _ w4 _ _ _ _ R4.out _ 1 _ HS4.out (by simp) (by show 0 + _ ≤ _; simp [catP]; rw [LL1.out]; decide)
    rw [show told none ++ catP [(⟨some ⟨g3, 0, none⟩, 64, L1⟩ : Pt)] = L1 by simp [catP, told]] at this
    exact this)
  refine HA4.out.mono ?_
  rintro e w5 ⟨rfl, r5⟩
  have R5 := Lib.hid r5
  clear r5
  have HA5 := Lib.hid (show Calls Try.prog 36 #[.pointer (some ⟨w.heap.size + 1, 0, none⟩), .slice A1 n c1] w5 fun e w' => e = .returned (.pointer (some ⟨w.heap.size + 1, 0, none⟩)) ∧ RunX w w' _ _ (w.heap.size + 1) (some (L1 ++ T)) from by
    have := add_any _ w5 _ _ _ _ R5.out A1 c1 _ (HPS.out.old _ _) (by rw [HN2.out]; exact hn) (by show L1.length + _ ≤ _; rw [LL1.out, HT.out]; omega)
    rw [HN2.out, show told (some L1) = L1 from rfl, HT.out] at this
    exact this)
  go_wp2_with fail
  refine HA5.out.mono ?_
  rintro e w6 ⟨rfl, r6⟩
  have R6 := Lib.hid r6
  clear r6
  have HA6 := Lib.hid (show Calls Try.prog 37 #[.pointer (some ⟨w.heap.size + 1, 0, none⟩)] w6 fun e w' => e = .returned (.agg (b8a K1)) ∧ RunX w w' _ _ (w.heap.size + 1) (some (L1 ++ T)) from by
    have := R6.out.sum (by show (L1 ++ T).length ≤ _; rw [List.length_append, LL1.out]; omega)
    rw [show told (some (L1 ++ T)) = L1 ++ T from rfl, HK1.out] at this
    exact this)
  go_wp2_with fail
  refine HA6.out.mono ?_
  rintro e w7 ⟨rfl, r7⟩
  have M7 := Lib.hid (r7.mst.arr32 K1)
  clear r7
  go_wp2_with (first | refine wpList_store_row rfl _ _ _ rfl w7.heap.size (b8a K1) rfl rfl 54 _ (Bk.mk_ _ _ _) (info_k KL1.out) (y32_k KL1.out) (b8a_one K1) ?_)
  obtain ⟨g6, hg6⟩ : ∃ g, w7.heap.size = g := ⟨_, rfl⟩
  rw [hg6] at M7 ⊢
  generalize World.setRow _ _ _ = w8 at M7 ⊢
  have Mq := Lib.hid (M7.out.sub (List.Sublist.refl _) (List.nil_sublist _)).drew
  clear hg6
  refine wp_region_held_drew (S := fun _ => True) (by kernel_rfl) ?_ (fun hHeld => ?_)
  · trivial
  refine wpAnyH_take (i := 0) (v := ?_) rfl (by kernel_rfl) (by kernel_rfl) (by kernel_rfl) (fun _ _ _ h => h) (Or.inl ⟨by rfl, ?_⟩) (by assumption) ?_
  rotate_left
  · intro w hSw; (try dsimp only at hSw); go_split_ands; go_simp; with_reducible rfl
  change wpAnyH _ _ _ _ _ _ _ (Act.put _ (some 14) _) _
  simp only [Act.put, List.setIfInBounds_toArray, List.set_cons_zero, List.set_cons_succ, Array.toArray_toList]
  refine wpAnyH_take (i := 2) (v := ?_) rfl (by kernel_rfl) (by kernel_rfl) (by kernel_rfl) (fun _ _ _ h => h) (Or.inl ⟨by rfl, ?_⟩) (by assumption) ?_
  rotate_left
  · intro w hSw; (try dsimp only at hSw); go_split_ands; go_simp; with_reducible rfl
  change wpAnyH _ _ _ _ _ _ _ (Act.put _ (some 16) _) _
  simp only [Act.put, List.setIfInBounds_toArray, List.set_cons_zero, List.set_cons_succ, Array.toArray_toList]
  refine wpAnyH_ready (rs := [1]) (by kernel_rfl) (by simp) ?_
  refine (AllReadyH.cons rfl (fun K hK => ?_) AllReadyH.nil)
  go_simp
  with_reducible refine (HF2.out _ Mq.out.bel).mono ?_; rintro e w9 ⟨g9, rfl, hf9⟩; have Mq := Lib.hid (Mq.out.addr hf9); clear hf9
  go_wp2_with fail
  refine hK.out _ _ (by trivial) (fun hHeld => ?_)
  clear hK K
  refine wpAnyH_ready (rs := [3]) (by kernel_rfl) (by simp) ?_
  refine (AllReadyH.cons rfl (fun K hK => ?_) AllReadyH.nil)
  go_simp; generalize hwq : World.alloc _ _ = wq; obtain ⟨y, mq, hp⟩ := Mq.out.twoE LL2.out KL1.out (Mq.out.rowSrc (List.mem_cons_self ..)) (Src.arr (List.mem_cons_self ..) KL1.out) hwq; have Mq := Lib.hid mq; have HP := Lib.hid hp; clear mq hp hwq
  refine hK.out _ _ (by trivial) (fun hHeld => ?_)
  clear hK K
  refine wpAnyH_ready (rs := [4]) (by kernel_rfl) (by simp) ?_
  refine (AllReadyH.cons rfl (fun K hK => ?_) AllReadyH.nil)
  go_simp
  with_reducible refine (HD2.out _ _ _ _ rfl rfl HP.out).mono ?_; rintro e wq ⟨rfl, hb⟩; have Mq := Lib.hid (Mq.out.below hb); clear hb
  go_wp2_with fail
  refine hK.out _ _ (by trivial) (fun hHeld => ?_)
  clear hK K
  refine wpAnyH_ready (rs := [5]) (by kernel_rfl) (by simp) ?_
  refine (AllReadyH.cons rfl (fun K hK => ?_) AllReadyH.nil)
  refine step_store_row rfl _ _ _ rfl w.heap.size (b8a K2) rfl rfl 54 _ (Mq.out.blk [_]) (info_k KL2.out) (y32_k KL2.out) (b8a_one K2) ?_
  refine hK.out _ _ (by trivial) (fun hHeld => ?_)
  clear hK K
  refine wpAnyH_done (by kernel_rfl) ?_ _
  go_wp2
  refine bodyPost_ret (results_cell_row rfl _ _ w.heap.size 54 _ (0, 0) _ rfl (setRow_heap _ _ _ _ _ _ (Mq.out.blk [_])) Try.underlying54 rfl (info_k KL2.out)) rfl ⟨rfl, (Mst.setRow (bl := []) [_] Mq.out (b8a K2)).bel⟩

set_option maxRecDepth 100000 in
set_option maxHeartbeats 1000000 in
theorem mtag_any (w : World) (A : Option Addr) (c : Nat) (key : List UInt8) (hr : RB w w.heap.size A key) (hk : key.length ≤ 100000) (A1 : Option Addr) (c1 : Nat) (ps : List Pt) (hp : Pts w A1 ps) (hn : ps.length ≤ 1000) (hl : (catP ps).length ≤ 800000) :
    Calls Try.prog 51 #[.slice A key.length c, .slice A1 ps.length c1] w fun e w' => e = .returned (.agg (b8a (macT key (catP ps)))) ∧ Below w.heap.size w w' := by
  obtain ⟨K2, hK2⟩ : ∃ K, macT key (catP ps) = K := ⟨_, rfl⟩
  have hKl2 : K2.length = 32 := by rw [← hK2]; rfl
  have m1 := (Mst.start w).new 54 Y32
  have h1 := rtag_any (w.alloc (.cells Y32 54)) A c key (m1.src (Src.old hr)) hk A1 c1 ps (m1.pts (hp.old _ _)) hn hl
  rw [hK2] at h1 ⊢
  have HT := Lib.hid h1
  have KL2 := Lib.hid hKl2
  have M1 := Lib.hid m1
  clear hr hp hK2 hKl2 h1 m1
  go_enter Try.func51, Try.ntmps51
  go_wp2_with fail
  refine HT.out.mono ?_
  rintro e w2 ⟨rfl, hb⟩
  have Mq := Lib.hid (M1.out.below hb)
  clear hb
  go_wp2_with (first | refine wpList_store_row rfl _ _ _ rfl w.heap.size (b8a K2) rfl rfl 54 _ (Mq.out.blk []) (info_k KL2.out) (y32_k KL2.out) (b8a_one K2) ?_)
  exact bodyPost_ret (results_cell_row rfl _ _ w.heap.size 54 _ (0, 0) _ rfl (setRow_heap _ _ _ _ _ _ (Mq.out.blk [])) Try.underlying54 rfl (info_k KL2.out)) rfl ⟨rfl, (Mst.setRow (bl := []) [] Mq.out (b8a K2)).bel⟩

set_option maxRecDepth 100000 in
set_option maxHeartbeats 1000000 in
theorem check_any (w : World) (A : Option Addr) (c : Nat) (key : List UInt8) (hr : RB w w.heap.size A key) (hk : key.length ≤ 100000) (At : Option Addr) (ct : Nat) (tag : List UInt8) (ht : RB w w.heap.size At tag) (htl : tag.length ≤ 100000) (A1 : Option Addr) (c1 : Nat) (ps : List Pt) (hp : Pts w A1 ps) (hn : ps.length ≤ 1000) (hl : (catP ps).length ≤ 800000) :
    Calls Try.prog 52 #[.slice A key.length c, .slice At tag.length ct, .slice A1 ps.length c1] w fun e w' => e = .returned (.bool (decide (tag = macT key (catP ps)))) ∧ Below w.heap.size w w' := by
  obtain ⟨K2, hK2⟩ : ∃ K, macT key (catP ps) = K := ⟨_, rfl⟩
  have hKl2 : K2.length = 32 := by rw [← hK2]; rfl
  have h1 := mtag_any w A c key hr hk A1 c1 ps hp hn hl
  rw [hK2] at h1 ⊢
  have HT := Lib.hid h1
  have KL2 := Lib.hid hKl2
  have HTG := Lib.hid ht
  have HE := Lib.hid (show ∀ w' A', Below w.heap.size w w' → RB w' w'.heap.size A' K2 → Calls Try.prog 48 #[.slice At tag.length ct, .slice A' 32 32] w' fun e w2 => e = .returned (.bool (decide (tag = K2))) ∧ Below w'.heap.size w' w2 from fun w' A' hb h => by
    have := equal2_any At A' ct 32 tag K2 w' ((ht.below hb).more hb.size) h (by unfold maxLen; omega)
    rw [hKl2] at this
    exact this)
  clear hr hp hK2 hKl2 h1 ht
  go_enter Try.func52, Try.ntmps52
  go_wp2_with fail
  refine HT.out.mono ?_
  rintro e w2 ⟨rfl, hb⟩
  have Mq := Lib.hid (((Mst.start w).below hb).arr32 K2)
  clear hb
  go_wp2_with (first | refine wpList_store_row rfl _ _ _ rfl w2.heap.size (b8a K2) rfl rfl 54 _ (Bk.mk_ _ _ _) (info_k KL2.out) (y32_k KL2.out) (b8a_one K2) ?_)
  refine (HE.out _ _ Mq.out.bel (by unfold RB; rw [KL2.out]; exact Mq.out.src (Src.arr (List.mem_cons_self ..) KL2.out))).mono ?_
  rintro e w3 ⟨rfl, hb⟩
  have Mq := Lib.hid (Mq.out.below hb)
  clear hb
  go_wp2
  go_ret
  exact ⟨rfl, Mq.out.bel⟩
end Go.Proofs.Ythnaobolmgcclaa
