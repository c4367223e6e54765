/- Contracts of package packet: Kinds. -/
import Derived.Test.YtnbemfceoianiaaDoorPq1
namespace Go.Proofs.YtnbemfceoianiaaDoor
set_option linter.unusedVariables false
set_option linter.unusedSimpArgs false
open Go.RowKit

theorem Bk.rangeW {w : World} {g : Nat} {t : TypeId} {cs : Array Value} (h : Bk w g t cs) : w.rangeAt g 0 cs.toList := fun j v hv => by rw [h.cell, Nat.zero_add]; simpa using hv
theorem info_15 : (Tryd.prog.info? 25).map (·.size) = some 15 := by kernel_rfl
theorem info_ik {C : List Int} (h : C.length = 15) : (Tryd.prog.info? 25).map (·.size) = some (ik C).size := by rw [ik_size, h]; exact info_15
theorem ik_one (C : List Int) : (ik C).all (·.oneCell') = true := by simp [ik, Value.oneCell']
def KdR (W : World) (g3 g2 : Nat) (l : List Int) (w : World) : Prop := Mst W w [(g3, 25, ik (cnt l)), (g2, 25, z15)] []
theorem take_map {l : List Pk} {k : Nat} {p : Pk} (h : l[k]? = some p) : (l.take (k + 1)).map Pk.k = (l.take k).map Pk.k ++ [p.k] := by
  rw [List.take_add_one, h]
  simp
set_option maxRecDepth 100000 in
set_option maxHeartbeats 4000000 in
theorem kinds14_any (W : World) (xs : List Pk) (hT : T32 xs) (A : Option Addr) (c n : Nat) (hn : xs.length = n) (hx : Rd W W.heap.size 41 A n (pks xs)) (hn5 : n ≤ 1000) :
    Calls Tryd.prog 9 #[.slice A n c] W fun e w' => e = .returned (.agg (ik (cnt (xs.map Pk.k)))) ∧ Below W.heap.size W w' := by
  have m1 := ((Mst.start W).new 25 z15).new 25 z15
  rw [show (W.alloc (.cells z15 25)).heap.size = W.heap.size + 1 by simp] at m1
  have M1 := Lib.hid m1
  have HX := Lib.hid hx
  have HN := Lib.hid hn
  have HT := Lib.hid hT
  clear m1 hx hn hT
  go_enter Tryd.func9, Tryd.ntmps9
  go_wp2_with fail
  go_loopg [8] n (fun gg s8 wr => ∃ k : Nat, k + gg = n ∧ s8 = .int .i64 k ∧ KdR W (W.heap.size + 1) W.heap.size ((xs.take k).map Pk.k) wr)
  case atStart => exact ⟨0, by omega, rfl, M1.out⟩
  case round =>
    obtain ⟨k, hk, rfl, m⟩ := hrel
    by_cases hlt : k < n
    · obtain ⟨p, hp⟩ : ∃ p, xs[k]? = some p := ⟨_, List.getElem?_eq_getElem (by rw [HN.out]; exact hlt)⟩
      have HTp := Lib.hid (HT.out p (List.mem_of_getElem? hp))
      have HTK := Lib.hid (take_map hp)
      have m' : Mst W wr _ _ := m
      obtain ⟨b, o, rfl, hb, hr⟩ := (m'.oldRd HX.out).pkAt HN.out HT.out hp
      have HR := Lib.hid hr
      obtain ⟨l, hl⟩ : ∃ l, (xs.take k).map Pk.k = l := ⟨_, rfl⟩
      have hll : l.length ≤ 1000 := by rw [← hl, List.length_map, List.length_take]; omega
      rw [hl] at m' HTK
      obtain ⟨C, x, hC, hx, hC15, hx0, hx1, hCs⟩ := cnt_at l p.k 1000 hll
      rw [hC] at m'
      have HCS := Lib.hid hCs
      have HCX := Lib.hid hx
      have HC15 := Lib.hid hC15
      have Mq := Lib.hid m'
      have HIX := Lib.hid (show kix p.k < 15 from kix_lt _)
      clear m m' hr hp hb hl hll hC hC15 hCs hx
      go_upto_region 5 with (first | refine wpList_loadG (by first | rfl | kernel_rfl) _ _ rfl b (o + k * 41) rfl (pkc p) _ HR.out Tryd.underlying33 rfl (info_pk HTp.out) ?_ | refine wpList_store_row rfl _ _ _ rfl wr.heap.size (pkc p) rfl rfl 33 _ (Bk.mk_ _ _ _) (info_pk HTp.out) (y41_k HTp.out) (pkc_one _) ?_)
      generalize hw2 : World.setRow _ _ _ = wn
      obtain ⟨g5, hg5⟩ : ∃ b, wr.heap.size = b := ⟨_, rfl⟩
      have hm := (Mst.setRow (bl := []) [] (Mq.out.new 33 Y41) (pkc p)).toVP hw2 rfl
      rw [hg5] at hm
      simp only [hg5]
      have hc0 := (pkc_cells (hm.blk [])).1
      have Mq := Lib.hid hm
      clear hw2 hm hg5 HR
      by_cases hin : 0 < p.k ∧ p.k < 15
      · obtain ⟨q, hq⟩ : ∃ q : Nat, p.k = q := ⟨p.k.toNat, by omega⟩
        rw [kix_in hin, show p.k.toNat = q by omega] at HCS HCX HIX
        have HK := Lib.hid (kind_any p.k)
        rw [decide_eq_true hin, hq] at HK
        rw [hq] at hc0 HTK
        have i1 : (0 : Int) < q := by omega
        have i2 : (q : Int) < 15 := by omega
        have hc1 : wn.cell? ⟨W.heap.size + 1, q, none⟩ = some (.int .i64 x) := by
          rw [(Mq.out.blk [_]).cell, ik_get HC15.out HIX.out, HCX.out]
        have hf1 := (Mq.out.blk [_]).fr q
        have HQ := Lib.hid hq
        clear hin hq
        go_wp2_with fail
        with_reducible refine (HK.out _).mono ?_
        rintro r w1 ⟨rfl, rfl⟩
        go_upto_region 8 with fail
        generalize hw6 : World.setCell _ _ _ = w6
        have mq := (Mq.out.put [_] q (.int .i64 (x + 1))).toVP hw6 rfl
        rw [ik_set, ← HCS.out] at mq
        have Mq := Lib.hid (mq.sub (bl' := [(W.heap.size + 1, 25, ik (cnt (l ++ [p.k]))), (W.heap.size, 25, z15)]) (List.sublist_cons_self _ _) (List.Sublist.refl _))
        clear hw6 mq hc0 hc1 hf1
        go_wp2_with fail
        go_roundg (n - (k + 1))
        case measure => exact meas hk hlt
        case rel => exact ⟨k + 1, meas2 hlt, by go_num, by rw [HTK.out, ← HQ.out]; exact Mq.out⟩
      · rw [kix_out hin] at HCS HCX HIX
        have HK := Lib.hid (kind_any p.k)
        rw [decide_eq_false hin] at HK
        have hc1 : wn.cell? ⟨W.heap.size + 1, 0, none⟩ = some (.int .i64 x) := by
          rw [(Mq.out.blk [_]).cell, ik_get HC15.out HIX.out, HCX.out]
        have hf1 := (Mq.out.blk [_]).fr 0
        clear hin
        go_wp2_with fail
        with_reducible refine (HK.out _).mono ?_
        rintro r w1 ⟨rfl, rfl⟩
        go_upto_region 8 with fail
        generalize hw6 : World.setCell _ _ _ = w6
        have mq := (Mq.out.put [_] 0 (.int .i64 (x + 1))).toVP hw6 rfl
        rw [ik_set, ← HCS.out] at mq
        have Mq := Lib.hid (mq.sub (bl' := [(W.heap.size + 1, 25, ik (cnt (l ++ [p.k]))), (W.heap.size, 25, z15)]) (List.sublist_cons_self _ _) (List.Sublist.refl _))
        clear hw6 mq hc0 hc1 hf1
        go_wp2_with fail
        go_roundg (n - (k + 1))
        case measure => exact meas hk hlt
        case rel => exact ⟨k + 1, meas2 hlt, by go_num, by rw [HTK.out]; exact Mq.out⟩
    · obtain rfl : k = n := by omega
      have m' : Mst W wr _ _ := m
      rw [show xs.take k = xs by rw [← HN.out, List.take_length]] at m'
      have h15 := (cnt_ok (xs.map Pk.k)).1
      obtain ⟨C, hC⟩ : ∃ C, cnt (xs.map Pk.k) = C := ⟨_, rfl⟩
      rw [hC] at m' h15
      have HCC := Lib.hid hC
      have Mq := Lib.hid m'
      have H15 := Lib.hid h15
      clear m m' h15 hC
      go_wp2_with (first | refine wpList_loadG (by first | rfl | kernel_rfl) _ _ rfl (W.heap.size + 1) 0 rfl (ik C) _ (Mq.out.blk []).rangeW Tryd.underlying25 rfl (info_ik H15.out) ?_ | refine wpList_store_row rfl _ _ _ rfl W.heap.size (ik C) rfl rfl 25 _ (Mq.out.blk [_]) (info_ik H15.out) (by rw [ik_size, H15.out]; rfl) (ik_one _) ?_)
      exact bodyPost_ret (results_cell_row rfl _ _ W.heap.size 25 _ (0, 0) _ rfl ((Mq.out.blk [_]).setRow _) Tryd.underlying25 rfl (info_ik H15.out)) rfl ⟨by rw [HCC.out], (Mst.setRow (bl := []) [_] Mq.out (ik C)).bel⟩
end Go.Proofs.YtnbemfceoianiaaDoor
