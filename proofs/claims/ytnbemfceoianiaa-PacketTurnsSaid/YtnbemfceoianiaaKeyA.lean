/- Key1. Key2. -/
import Derived.Test.YtnbemfceoianiaaMacA
/- Contracts of package mac's keys. -/
namespace Go.Proofs.Ytnbemfceoianiaa
set_option linter.unusedVariables false
set_option linter.unusedSimpArgs false
open Go.RowKit

/-- A key in memory: its bytes. -/
def KeyW (w : World) (gk : Nat) (kb : List UInt8) : Prop := ∃ A c, w.cell? ⟨gk, 0, none⟩ = some (.slice A kb.length c) ∧ RB w w.heap.size A kb
theorem KeyW.lt {w : World} {gk : Nat} {kb : List UInt8} (h : KeyW w gk kb) : gk < w.heap.size := by
  obtain ⟨A, c, h1, _⟩ := h
  exact block_lt_of_cell h1
theorem KeyW.keep {w w' : World} {gk : Nat} {kb : List UInt8} (h : KeyW w gk kb) (hb : Below w.heap.size w w') : KeyW w' gk kb := by
  have hl := h.lt
  obtain ⟨A, c, h1, h2⟩ := h
  exact ⟨A, c, (hb.cell (p := ⟨gk, 0, none⟩) hl).trans h1, (h2.below hb).more hb.size⟩
theorem Mst.key {W w : World} {bl : Bl} {ow : List Ro} {gk c n : Nat} {A : Option Addr} {kb : List UInt8} {t : TypeId} (h : Mst W w bl ow) (hb : (gk, t, #[Value.slice A n c]) ∈ bl) (hn : kb.length = n) (hr : Src W bl ow 1 A n (by8 kb)) : KeyW w gk kb := by
  subst hn
  exact ⟨A, c, (h.bk _ hb).1.cell 0, h.src hr⟩

set_option maxRecDepth 100000 in
set_option maxHeartbeats 1000000 in
theorem new_M (W w : World) (bl : Bl) (ow : List Ro) (hm : Mst W w bl ow) (A : Option Addr) (c : Nat) (kb : List UInt8) (hr : RB w w.heap.size A kb) (hk : kb.length ≤ 100000) :
    Calls Try.prog 7 #[.slice A kb.length c] w fun e w' => ∃ gk A' c', e = .returned (.pointer (some ⟨gk, 0, none⟩)) ∧ Mst W w' ((gk, 66, #[.slice A' kb.length c']) :: bl) (⟨5, 1, .slice A' kb.length c', kb.length, by8 kb⟩ :: ow) := by
  have HC := Lib.hid (clone_any A c kb w hr (by omega))
  obtain ⟨n, hn⟩ : ∃ n, kb.length = n := ⟨_, rfl⟩
  rw [hn] at HC ⊢
  have HM := Lib.hid hm
  clear hr hm hn
  go_enter Try.func7, Try.ntmps7
  go_wp2_with fail
  refine HC.out.mono ?_
  rintro e w1 ⟨v, rfl, hf⟩
  have m1 := HM.out.addr hf
  obtain ⟨A', c', rfl, _⟩ := own_form hf.own
  have M2 := Lib.hid (m1.new 66 #[.slice A' n c'])
  clear m1 hf
  go_wp2
  go_ret
  exact ⟨_, A', c', rfl, M2.out⟩
theorem new_any (w : World) (A : Option Addr) (c : Nat) (kb : List UInt8) (hr : RB w w.heap.size A kb) (hk : kb.length ≤ 100000) :
    Calls Try.prog 7 #[.slice A kb.length c] w fun e w' => ∃ gk, e = .returned (.pointer (some ⟨gk, 0, none⟩)) ∧ KeyW w' gk kb ∧ Below w.heap.size w w' := by
  refine (new_M w w [] [] (Mst.start w) A c kb hr hk).mono ?_
  rintro e w' ⟨gk, A', c', rfl, m⟩
  exact ⟨gk, rfl, m.key (List.mem_cons_self ..) rfl (m.rowSrc (List.mem_cons_self ..)), m.bel⟩

set_option maxRecDepth 100000 in
set_option maxHeartbeats 1000000 in
theorem ktag_any (w : World) (gk : Nat) (kb : List UInt8) (hk : KeyW w gk kb) (hl : kb.length ≤ 100000) (A1 : Option Addr) (c1 : Nat) (ps : List Pt) (hp : Pts w A1 ps) (hn : ps.length ≤ 1000) (hpl : (catP ps).length ≤ 800000) :
    Calls Try.prog 25 #[.pointer (some ⟨gk, 0, none⟩), .slice A1 ps.length c1] w fun e w' => e = .returned (.agg (b8a (macT kb (catP ps)))) ∧ Below w.heap.size w w' := by
  obtain ⟨K2, hK2⟩ : ∃ K, macT kb (catP ps) = K := ⟨_, rfl⟩
  have hKl2 : K2.length = 32 := by rw [← hK2]; rfl
  have hkl := hk.lt
  obtain ⟨A, c, c0, hr⟩ := hk
  have m1 := (Mst.start w).new 27 Y32
  have h1 := rtag_any (w.alloc (.cells Y32 27)) A c kb (m1.src (Src.old hr)) hl A1 c1 ps (m1.pts (hp.old _ _)) hn hpl
  rw [hK2] at h1 ⊢
  have c1' := m1.old hkl c0
  obtain ⟨n, hn⟩ : ∃ n, kb.length = n := ⟨_, rfl⟩
  rw [hn] at h1 c0 c1'
  have HT := Lib.hid h1
  have KL2 := Lib.hid hKl2
  have M1 := Lib.hid m1
  clear hr hp hK2 hKl2 h1 m1 hn c0
  go_enter Try.func25, Try.ntmps25
  go_wp2_with fail
  refine HT.out.mono ?_
  rintro e w2 ⟨rfl, hb⟩
  have Mq := Lib.hid (M1.out.below hb)
  clear hb
  go_wp2_with (first | refine wpList_store_row rfl _ _ _ rfl w.heap.size (b8a K2) rfl rfl 27 _ (Mq.out.blk []) (info_k KL2.out) (y32_k KL2.out) (b8a_one K2) ?_)
  exact bodyPost_ret (results_cell_row rfl _ _ w.heap.size 27 _ (0, 0) _ rfl (setRow_heap _ _ _ _ _ _ (Mq.out.blk [])) Try.underlying27 rfl (info_k KL2.out)) rfl ⟨rfl, (Mst.setRow (bl := []) [] Mq.out (b8a K2)).bel⟩
set_option maxRecDepth 100000 in
set_option maxHeartbeats 1000000 in
theorem ktag_nil (w : World) (A1 : Option Addr) (c1 : Nat) (ps : List Pt) (hp : Pts w A1 ps) (hn : ps.length ≤ 1000) (hpl : (catP ps).length ≤ 800000) :
    Calls Try.prog 25 #[.pointer none, .slice A1 ps.length c1] w fun e w' => e = .returned (.agg (b8a (macT [] (catP ps)))) ∧ Below w.heap.size w w' := by
  obtain ⟨K2, hK2⟩ : ∃ K, macT [] (catP ps) = K := ⟨_, rfl⟩
  have hKl2 : K2.length = 32 := by rw [← hK2]; rfl
  have m1 := (Mst.start w).new 27 Y32
  have h1 := mtag_any (w.alloc (.cells Y32 27)) none 0 [] (Rd.nil_ _ _ _ _) (by simp) A1 c1 ps (m1.pts (hp.old _ _)) hn hpl
  rw [hK2] at h1 ⊢
  have HT := Lib.hid (show Calls Try.prog 49 #[.slice none 0 0, .slice A1 ps.length c1] _ _ from h1)
  have KL2 := Lib.hid hKl2
  have M1 := Lib.hid m1
  clear hp hK2 hKl2 h1 m1
  go_enter Try.func25, Try.ntmps25
  go_wp2_with fail
  refine HT.out.mono ?_
  rintro e w2 ⟨rfl, hb⟩
  have Mq := Lib.hid (M1.out.below hb)
  clear hb
  go_wp2_with (first | refine wpList_store_row rfl _ _ _ rfl w.heap.size (b8a K2) rfl rfl 27 _ (Mq.out.blk []) (info_k KL2.out) (y32_k KL2.out) (b8a_one K2) ?_)
  exact bodyPost_ret (results_cell_row rfl _ _ w.heap.size 27 _ (0, 0) _ rfl (setRow_heap _ _ _ _ _ _ (Mq.out.blk [])) Try.underlying27 rfl (info_k KL2.out)) rfl ⟨rfl, (Mst.setRow (bl := []) [] Mq.out (b8a K2)).bel⟩

/-- The tag of a key in memory over what framed has laid. -/
theorem frtag (kb : List UInt8) (s : ByteArray) (ps : List Pt) (hs : s.size ≤ 1000) (hn : ps.length ≤ 100) (hl : ∀ p ∈ ps, p.l.length ≤ 1000) (hkl : kb.length ≤ 100000) (K2 : List UInt8) (hK2 : macT kb (frameB (s.data.toList :: ps.map Pt.l)) = K2)
    (w' : World) (A A' : Option Addr) (c c' : Nat) (qs : List Pt) (n m : Nat) (hn1 : kb.length = n) (hm1 : qs.length = m) (hr : RB w' w'.heap.size A kb) (hq : Pts w' A' qs) (hq2 : qs.map Pt.l = framesL (s.data.toList :: ps.map Pt.l)) :
    Calls Try.prog 50 #[.slice A n c, .slice A' m c'] w' fun e w2 => e = .returned (.agg (b8a K2)) ∧ Below w'.heap.size w' w2 := by
  subst hn1 hm1
  have hfl : (frameB (s.data.toList :: ps.map Pt.l)).length ≤ 110000 := by
    have := frameB_len (s.data.toList :: ps.map Pt.l) 1000 (by
      intro l hl2
      rcases List.mem_cons.1 hl2 with rfl | hl2
      · simpa using hs
      · obtain ⟨p, hp, rfl⟩ := List.mem_map.1 hl2
        exact hl p hp)
    simp only [List.length_cons, List.length_map] at this
    have : (ps.length + 1) * (4 + 1000) ≤ 101 * 1004 := Nat.mul_le_mul (by omega) (by omega)
    omega
  have e1 : catP qs = frameB (s.data.toList :: ps.map Pt.l) := by rw [catP_map, hq2]; rfl
  have e2 := congrArg List.length hq2
  rw [List.length_map, framesL_len, List.length_cons, List.length_map] at e2
  have := rtag_any w' A c kb hr hkl A' c' qs hq (by omega) (by rw [e1]; omega)
  rw [e1, hK2] at this
  exact this
end Go.Proofs.Ytnbemfceoianiaa
/- Contracts of package mac's keys: Derive, Print, Zero. -/
namespace Go.Proofs.Ytnbemfceoianiaa
set_option linter.unusedVariables false
set_option linter.unusedSimpArgs false
open Go.RowKit

theorem Pts.stay {w w' : World} {A : Option Addr} {ps : List Pt} (h : Pts w A ps) (hb : Below w.heap.size w w') : Pts w' A ps :=
  ⟨(h.1.below hb).more hb.size, fun p hp => ((h.2 p hp).below hb).more hb.size⟩
theorem Pts.allocE {w w2 : World} {A : Option Addr} {ps : List Pt} {ob : Obj} (h : Pts w A ps) (hw : w.alloc ob = w2) : Pts w2 A ps := by
  subst hw
  exact h.stay ((Below.refl _ _).alloc (Nat.le_refl _) _)
end Go.Proofs.Ytnbemfceoianiaa
