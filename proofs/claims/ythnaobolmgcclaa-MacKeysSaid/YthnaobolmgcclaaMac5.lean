/- Contracts of mac.Derive, and of the document's filled. -/
import Derived.Test.YthnaobolmgcclaaMac4
namespace Go.Proofs.Ythnaobolmgcclaa
set_option linter.unusedVariables false
set_option linter.unusedSimpArgs false
open Go.RowKit

/-- The document's digest at a table: what it answers. -/
structure RSum (KT : Array Value) : Prop where
  make : ∀ w, Calls Try.prog 33 #[] w fun e w' => e = .returned (.agg KT) ∧ Below w.heap.size w w'
  sum : ∀ (w : World) (A : Option Addr) (c : Nat) (l : List UInt8), RB w w.heap.size A l → l.length ≤ 900000 → Calls Try.prog 32 #[.agg KT, .slice A l.length c] w fun e w' => e = .returned (.agg (b8a (sha l))) ∧ Below w.heap.size w w'
  inf : (Try.prog.info? 60).map (·.size) = some KT.size
  z72 : Z72.size = KT.size
  one : KT.all (·.oneCell') = true
theorem rsum_ex : ∃ KT, RSum KT := by
  obtain ⟨KT, h1, h2, h3, h4, h5⟩ := ref_sum2
  exact ⟨KT, h1, h2, h3, h4, h5⟩
theorem RSum.infL {KT : Array Value} (h : RSum KT) : (Try.prog.info? 60).map (·.size) = some KT.toList.length := by rw [Array.length_toList]; exact h.inf
/-- What is tagged in deriving. -/
def frameB (ls : List (List UInt8)) : List UInt8 := (framesL ls).flatten
theorem catP_map (qs : List Pt) : catP qs = (qs.map Pt.l).flatten := by simp [catP, List.flatMap]
theorem frameB_len (ls : List (List UInt8)) (N : Nat) (h : ∀ l ∈ ls, l.length ≤ N) : (frameB ls).length ≤ ls.length * (4 + N) := by
  induction ls with
  | nil => simp [frameB, framesL]
  | cons l ls ih =>
    have h1 := h l (List.mem_cons_self ..)
    have h2 := ih fun x hx => h x (List.mem_cons_of_mem _ hx)
    simp only [frameB, framesL, List.flatMap_cons, List.flatten_append, List.length_append, List.flatten_cons, List.flatten_nil, List.length_nil, List.length_cons] at h2 ⊢
    have h3 : (len4 l.length).length = 4 := rfl
    rw [Nat.add_mul]
    omega

set_option maxRecDepth 100000 in
set_option maxHeartbeats 1000000 in
theorem derive_any (w : World) (A : Option Addr) (c : Nat) (key : List UInt8) (hr : RB w w.heap.size A key) (hk : key.length ≤ 100000) (s : ByteArray) (hs : s.size ≤ 1000) (A1 : Option Addr) (c1 : Nat) (ps : List Pt) (hp : Pts w A1 ps) (hn : ps.length ≤ 100) (hl : ∀ p ∈ ps, p.l.length ≤ 1000) :
    Calls Try.prog 53 #[.slice A key.length c, .string s, .slice A1 ps.length c1] w fun e w' => e = .returned (.agg (b8a (macT key (frameB (s.data.toList :: ps.map Pt.l))))) ∧ Below w.heap.size w w' := by
  obtain ⟨K2, hK2⟩ : ∃ K, macT key (frameB (s.data.toList :: ps.map Pt.l)) = K := ⟨_, rfl⟩
  have hKl2 : K2.length = 32 := by rw [← hK2]; rfl
  rw [hK2]
  have m1 := (Mst.start w).new 54 Y32
  have h1 := framed_any (w.alloc (.cells Y32 54)) s A1 c1 ps (m1.pts (hp.old _ _)) (by omega) (by omega) (fun p hp => Nat.le_trans (hl p hp) (by decide))
  have HF := Lib.hid h1
  have hfl : (frameB (s.data.toList :: ps.map Pt.l)).length ≤ 110000 := by
    have := frameB_len (s.data.toList :: ps.map Pt.l) 1000 (by
      intro l hl2
      rcases List.mem_cons.1 hl2 with rfl | hl2
      · simpa using hs
      · obtain ⟨p, hp, rfl⟩ := List.mem_map.1 hl2
        exact hl p hp)
    simp only [List.length_cons, List.length_map] at this
    have : (ps.length + 1) * (4 + 1000) ≤ 101 * 1004 := Nat.mul_le_mul (by omega) (by omega)
    omega
  have HT := Lib.hid (show ∀ w' A' c' qs, Below w.heap.size w w' → Pts w' A' qs → qs.map Pt.l = framesL (s.data.toList :: ps.map Pt.l) → Calls Try.prog 90 #[.slice A key.length c, .slice A' qs.length c'] w' fun e w2 => e = .returned (.agg (b8a K2)) ∧ Below w'.heap.size w' w2 from fun w' A' c' qs hb hq hq2 => by
    have e1 : catP qs = frameB (s.data.toList :: ps.map Pt.l) := by rw [catP_map, hq2]; rfl
    have e2 := congrArg List.length hq2
    rw [List.length_map, framesL_len, List.length_cons, List.length_map] at e2
    have := rtag_any w' A c key ((hr.below hb).more hb.size) hk A' c' qs hq (by omega) (by rw [e1]; omega)
    rw [e1, hK2] at this
    exact this)
  have KL2 := Lib.hid hKl2
  have M1 := Lib.hid m1
  clear hr hp hK2 hKl2 h1 m1 hl hfl
  go_enter Try.func53, Try.ntmps53
  go_wp2_with fail
  refine HF.out.mono ?_
  rintro e w2 ⟨A', c', qs, rfl, hq1, hq2, hb⟩
  have Mq := Lib.hid (M1.out.below hb)
  have HQ1 := Lib.hid hq1
  have HQ2 := Lib.hid hq2
  clear hb hq1 hq2
  have HT2 := Lib.hid (HT.out w2 A' c' qs Mq.out.bel HQ1.out HQ2.out)
  obtain ⟨m, hm⟩ : ∃ m, qs.length = m := ⟨_, rfl⟩
  rw [hm] at HT2 ⊢
  clear hm
  go_wp2_with fail
  refine HT2.out.mono ?_
  rintro e w3 ⟨rfl, hb⟩
  have Mq := Lib.hid (Mq.out.below hb)
  clear hb
  go_wp2_with (first | refine wpList_store_row rfl _ _ _ rfl w.heap.size (b8a K2) rfl rfl 54 _ (Mq.out.blk []) (info_k KL2.out) (y32_k KL2.out) (b8a_one K2) ?_)
  exact bodyPost_ret (results_cell_row rfl _ _ w.heap.size 54 _ (0, 0) _ rfl (setRow_heap _ _ _ _ _ _ (Mq.out.blk [])) Try.underlying54 rfl (info_k KL2.out)) rfl ⟨rfl, (Mst.setRow (bl := []) [] Mq.out (b8a K2)).bel⟩

structure FlR (w wr : World) (key : List UInt8) (v1 : Value) : Prop where
  m : ∃ A c xb xr, v1 = .slice A (keyOf key).length c ∧ Mst w wr xb xr ∧ Src w xb xr 1 A (keyOf key).length (by8 (keyOf key))
theorem fillB_get (key : List UInt8) (y : UInt8) {k : Nat} (h : k < 64) : (fillB key y)[k]? = some ((fillZ key).getD k 0 ^^^ y) := by
  unfold fillB
  rw [List.getElem?_map, getD_at (by rw [fillZ_len]; exact h)]; rfl
theorem fillZ_lo (key : List UInt8) {k : Nat} (h : k < (keyOf key).length) : (fillZ key).getD k 0 = (keyOf key).getD k 0 := by
  unfold fillZ
  rw [List.getD_eq_getElem?_getD, List.getElem?_append_left h, List.getD_eq_getElem?_getD]
theorem fillZ_hi (key : List UInt8) {k : Nat} (h : ¬ k < (keyOf key).length) : (fillZ key).getD k 0 = 0 := by
  unfold fillZ
  rw [List.getD_eq_getElem?_getD, List.getElem?_append_right (by omega), List.getElem?_replicate]
  split <;> rfl
theorem upB_getD (L : List UInt8) (k : Nat) : (upB L k).getD k 0 = 0 := by
  unfold upB
  rw [List.getD_eq_getElem?_getD]
  by_cases h : k ≤ L.length
  · rw [List.getElem?_append_right (by simp; omega), List.getElem?_replicate]
    split <;> rfl
  · rw [List.getElem?_eq_none (by simp; omega)]; rfl

set_option maxRecDepth 100000 in
set_option maxHeartbeats 1000000 in
theorem rfilled_any (KT : Array Value) (hKT : RSum KT) (w : World) (A : Option Addr) (c : Nat) (key : List UInt8) (y : UInt8) (hr : RB w w.heap.size A key) (hk : key.length ≤ 100000) :
    Calls Try.prog 89 #[.agg KT, .slice A key.length c, .int .u8 (y.toNat : Int)] w fun e w' => ∃ g, e = .returned (.slice (some ⟨g, 0, none⟩) 64 64) ∧ Fresh w w' 5 1 (.slice (some ⟨g, 0, none⟩) 64 64) 64 (by8 (fillB key y)) := by
  have HR := Lib.hid hr
  have HKT := Lib.hid hKT
  obtain ⟨n, hn⟩ : ∃ n, key.length = n := ⟨_, rfl⟩
  have HN := Lib.hid hn
  have hS := hKT.sum
  rw [hn] at hk ⊢
  have m0 := (Mst.start w).new 60 KT
  have M0 := Lib.hid m0
  have hmk : ∀ w, (Instr.makeSlice 26 (.int .i64 64) (.int .i64 64)).run Try.prog w = .ok (.slice (some ⟨w.heap.size, 0, none⟩) 64 64) (w.alloc (.cells z64 5)) := fun w => make_u8 64 (by decide) w
  have L0 := Lib.hid (m0.blk []).rangeL
  have HS0 := Lib.hid (show ∀ w', Below w.heap.size w w' → Calls Try.prog 32 #[.agg KT, .slice A n c] w' fun e w2 => e = .returned (.agg (b8a (sha key))) ∧ Below w'.heap.size w' w2 from fun w' hb => by
    have := hS w' A c key ((hr.below hb).more hb.size) (by omega)
    rw [hn] at this
    exact this)
  clear hr hn m0 hKT hS
  go_enter Try.func89, Try.ntmps89
  go_upto_if 12 with fail
  go_cut [1] (fun s1 wr => FlR w wr key s1)
  case first =>
    by_cases h64 : 64 < n
    · have i1 : (64 : Int) < n := by omega
      have hK : keyOf key = sha key := by unfold keyOf; rw [if_pos (by rw [HN.out]; exact h64)]
      obtain ⟨K, hK2⟩ : ∃ K, sha key = K := ⟨_, rfl⟩
      have hKl : K.length = 32 := by rw [← hK2]; rfl
      rw [hK2] at hK HS0
      have HK := Lib.hid hK
      have HKL := Lib.hid hKl
      clear hK hKl hK2
      go_wp2_with (first | refine wpList_load_mid rfl _ _ rfl w.heap.size 0 rfl KT.toList _ L0.out Try.underlying60 rfl HKT.out.infL ?_)
      refine (HS0.out _ M0.out.bel).mono ?_
      rintro e w2 ⟨rfl, hb2⟩
      have m3 := (M0.out.below hb2).arr32 K
      have M3 := Lib.hid m3
      clear hb2 m3
      go_wp2_with (first | refine wpList_store_row rfl _ _ _ rfl w2.heap.size (b8a K) rfl rfl 54 _ (Bk.mk_ _ _ _) (info_k HKL.out) (y32_k HKL.out) (b8a_one K) ?_)
      go_meet
      exact ⟨some ⟨w2.heap.size, 0, none⟩, 32, _, _, by rw [HK.out, HKL.out], M3.out, by rw [HK.out]; exact Src.arr (List.mem_cons_self ..) rfl⟩
    · have i1 : ¬ (64 : Int) < n := by omega
      have hK : keyOf key = key := by unfold keyOf; rw [if_neg (by rw [HN.out]; exact h64)]
      have HK := Lib.hid hK
      clear hK
      go_wp2_with fail
      go_meet
      exact ⟨A, c, _, _, by rw [HK.out, HN.out], M0.out, by rw [HK.out]; exact Src.old HR.out⟩
  case rest =>
    obtain ⟨A6, c6, xb, xr, rfl, hm, hs⟩ := hcut.m
    have hkl := keyOf_len key
    obtain ⟨n6, hn6⟩ : ∃ n, (keyOf key).length = n := ⟨_, rfl⟩
    rw [hn6] at hs hkl ⊢
    have HN6 := Lib.hid hn6
    have HS := Lib.hid hs
    have m1 := hm.new 5 z64
    obtain ⟨g8, hg8⟩ : ∃ g, wc.heap.size = g := ⟨_, rfl⟩
    rw [hg8] at m1
    have M1 := Lib.hid (show Mst w _ ((g8, 5, b8a (upB (fillB key y) 0)) :: xb) xr from by
      rw [show upB (fillB key y) 0 = List.replicate 64 0 by simp [upB, fillB_len]]; exact m1)
    have ST := fun (x : UInt8) p w => Bv_store (P := Try.prog) x w p
    have SC := fun x => (Value.cells.eq_def (Bv x)).symm.trans (Bv_cells x)
    have BX := fun x y w => Bv_xor (P := Try.prog) 5 x y w
    rw [Bv_eq]
    clear hm hs hn6 hcut m1
    go_wp2_with fail
    go_loopg [9] 64 (fun gk s9 wr => ∃ k : Nat, k + gk = 64 ∧ s9 = .int .i64 k ∧ Mst w wr ((g8, 5, b8a (upB (fillB key y) k)) :: xb) xr)
    case atStart => exact ⟨0, by omega, rfl, M1.out⟩
    case round =>
      obtain ⟨k, hk, rfl, hm⟩ := hrel
      by_cases hlt : k < 64
      · have f3 := (hm.blk []).fr k
        have hc3 := (hm.blk []).cell k
        rw [b8a_get (by rw [upB_len _ (by rw [fillB_len]; omega), fillB_len]; exact hlt), upB_getD] at hc3
        have c3 : wr.cell? ⟨g8, k, none⟩ = some (Bv 0) := hc3
        obtain ⟨x, hx⟩ : ∃ x, (fillZ key).getD k 0 = x := ⟨_, rfl⟩
        have hs := upB_set (fillB key y) (fillB_get key y hlt)
        rw [hx] at hs
        have HX := Lib.hid hs
        have HM := Lib.hid hm
        clear hs hc3
        by_cases h6 : k < n6
        · have i1 : (k : Int) < n6 := by omega
          obtain ⟨b6, o6, rfl, hb6, hc6⟩ := (hm.src (HS.out.cb _)).2 (by omega)
          have c6 : wr.cell? ⟨b6, o6 + k, none⟩ = some (Bv x) := hc6 k _ (by
            rw [← hx, fillZ_lo _ (by rw [HN6.out]; exact h6), by8_getD (by rw [HN6.out]; exact h6)]; rfl)
          clear hx hm hc6
          go_wp2
          go_roundg (64 - (k + 1))
          case measure => exact meas hk hlt
          case rel => exact ⟨k + 1, meas2 hlt, by go_num, by
            have := (HM.out.put [] k (Bv x)).put [] k (Bv (x ^^^ y))
            rw [show Bv (x ^^^ y) = .int .u8 ((x ^^^ y).toNat : Int) from rfl, show Bv x = .int .u8 (x.toNat : Int) from rfl, b8a_set, b8a_set, List.set_set, HX.out] at this
            exact this⟩
        · have i1 : ¬ (k : Int) < n6 := by omega
          have hx0 : x = 0 := by rw [← hx, fillZ_hi _ (by rw [HN6.out]; exact h6)]
          subst hx0
          clear hx hm
          go_wp2
          go_roundg (64 - (k + 1))
          case measure => exact meas hk hlt
          case rel => exact ⟨k + 1, meas2 hlt, by go_num, by
            have hx := HX.out
            rw [UInt8.zero_xor] at hx
            have := HM.out.put [] k (Bv y)
            rw [show Bv y = .int .u8 (y.toNat : Int) from rfl, b8a_set, hx] at this
            exact this⟩
      · obtain rfl : k = 64 := by omega
        rw [show upB (fillB key y) 64 = fillB key y by simp [upB, fillB_len, List.take_of_length_le]] at hm
        have HM := Lib.hid hm
        clear hm hlt hk
        go_wp2_with fail
        go_ret
        exact ⟨g8, rfl, HM.out.bel, HM.out.fullRow (by rw [b8a_size, fillB_len]) (by simp [b8a])⟩
end Go.Proofs.Ythnaobolmgcclaa
