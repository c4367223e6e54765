/- Contracts of mac.Derive and mac.Check. -/
import Derived.Test.YtghcdffpplimoaaMacA
namespace Go.Proofs.Ytghcdffpplimoaa
set_option linter.unusedVariables false
set_option linter.unusedSimpArgs false
open Go.RowKit

set_option maxRecDepth 100000 in
set_option maxHeartbeats 1000000 in
theorem derive_any (w : World) (A : Option Addr) (c : Nat) (key : List UInt8) (hr : RB w w.heap.size A key) (hk : key.length ≤ 100000) (s : ByteArray) (hs : s.size ≤ 1000) (A1 : Option Addr) (c1 : Nat) (ps : List Pt) (hp : Pts w A1 ps) (hn : ps.length ≤ 100) (hl : ∀ p ∈ ps, p.l.length ≤ 1000) :
    Calls Try.prog 90 #[.slice A key.length c, .string s, .slice A1 ps.length c1] w fun e w' => e = .returned (.agg (b8a (macT key (frameB (s.data.toList :: ps.map Pt.l))))) ∧ Below w.heap.size w w' := by
  obtain ⟨K2, hK2⟩ : ∃ K, macT key (frameB (s.data.toList :: ps.map Pt.l)) = K := ⟨_, rfl⟩
  have hKl2 : K2.length = 32 := by rw [← hK2]; rfl
  rw [hK2]
  have m1 := (Mst.start w).new 27 Y32
  have h1 := framed_any (w.alloc (.cells Y32 27)) s A1 c1 ps (m1.pts (hp.old _ _)) (by omega) (by omega) (fun p hp => Nat.le_trans (hl p hp) (by decide))
  have HF := Lib.hid h1
  have hfl : (frameB (s.data.toList :: ps.map Pt.l)).length ≤ 110000 := by
    have := frameB_len (s.data.toList :: ps.map Pt.l) 1000 (by
      intro l hl2
      rcases List.mem_cons.1 hl2 with rfl | hl2
      · simpa using hs
      · obtain ⟨p, hp, rfl⟩ := List.mem_map.1 hl2
        exact hl p hp)
    simp only [List.length_cons, List.length_map] at this
    have : (ps.length + 1) * (4 + 1000) ≤ 101 * 1004 := Nat.mul_le_mul (by omega) (by omega)
    omega
  have HT := Lib.hid (show ∀ w' A' c' qs, Below w.heap.size w w' → Pts w' A' qs → qs.map Pt.l = framesL (s.data.toList :: ps.map Pt.l) → Calls Try.prog 101 #[.slice A key.length c, .slice A' qs.length c'] w' fun e w2 => e = .returned (.agg (b8a K2)) ∧ Below w'.heap.size w' w2 from fun w' A' c' qs hb hq hq2 => by
    have e1 : catP qs = frameB (s.data.toList :: ps.map Pt.l) := by rw [catP_map, hq2]; rfl
    have e2 := congrArg List.length hq2
    rw [List.length_map, framesL_len, List.length_cons, List.length_map] at e2
    have := rtag_any w' A c key ((hr.below hb).more hb.size) hk A' c' qs hq (by omega) (by rw [e1]; omega)
    rw [e1, hK2] at this
    exact this)
  have KL2 := Lib.hid hKl2
  have M1 := Lib.hid m1
  clear hr hp hK2 hKl2 h1 m1 hl hfl
  go_enter Try.func90, Try.ntmps90
  go_wp2_with fail
  refine HF.out.mono ?_
  rintro e w2 ⟨A', c', qs, rfl, hq1, hq2, hb⟩
  have Mq := Lib.hid (M1.out.below hb)
  have HQ1 := Lib.hid hq1
  have HQ2 := Lib.hid hq2
  clear hb hq1 hq2
  have HT2 := Lib.hid (HT.out w2 A' c' qs Mq.out.bel HQ1.out HQ2.out)
  obtain ⟨m, hm⟩ : ∃ m, qs.length = m := ⟨_, rfl⟩
  rw [hm] at HT2 ⊢
  clear hm
  go_wp2_with fail
  refine HT2.out.mono ?_
  rintro e w3 ⟨rfl, hb⟩
  have Mq := Lib.hid (Mq.out.below hb)
  clear hb
  go_wp2_with (first | refine wpList_store_row rfl _ _ _ rfl w.heap.size (b8a K2) rfl rfl 27 _ (Mq.out.blk []) (info_k KL2.out) (y32_k KL2.out) (b8a_one K2) ?_)
  exact bodyPost_ret (results_cell_row rfl _ _ w.heap.size 27 _ (0, 0) _ rfl (setRow_heap _ _ _ _ _ _ (Mq.out.blk [])) Try.underlying27 rfl (info_k KL2.out)) rfl ⟨rfl, (Mst.setRow (bl := []) [] Mq.out (b8a K2)).bel⟩
end Go.Proofs.Ytghcdffpplimoaa
