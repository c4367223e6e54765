/- Pk7. Pk8. Pk15. -/
import Derived.Test.YtnbemfceoianiaaDoorPkD
import Derived.Test.YtnbemfceoianiaaDoorPk6
import Derived.Test.YtnbemfceoianiaaDoorWinB
import Derived.Test.YtnbemfceoianiaaDoorWireB
import Derived.Test.YtnbemfceoianiaaDoorEqual
/- Packets: Head. -/
namespace Go.Proofs.YtnbemfceoianiaaDoor
set_option linter.unusedVariables false
set_option linter.unusedSimpArgs false
open Go.RowKit
theorem chkP_ok {p : Pk} (h : chkP p = 0) : (1 ≤ p.k ∧ p.k ≤ 14) ∧ clOk p.i p.r p.x p.s ∧ (0 ≤ p.t ∧ p.t ≤ 65535) ∧ wnOk p.b p.c ∧ p.l.length ≤ 512 ∧ (p.k < 3 → p.T = Z32) := by
  unfold chkP at h
  split at h
  · omega
  split at h
  · omega
  split at h
  · omega
  split at h
  · omega
  rename_i h1 h2 h3 h4
  have hcl : clOk p.i p.r p.x p.s := by
    by_cases h : clOk p.i p.r p.x p.s
    · exact h
    · exact absurd (.inl h) h2
  have hwn : wnOk p.b p.c := by
    by_cases h : wnOk p.b p.c
    · exact h
    · exact absurd (.inr (.inr (.inr h))) h2
  refine ⟨by omega, hcl, by omega, hwn, by omega, fun h => ?_⟩
  by_cases hz : p.T = Z32
  · exact hz
  · exact absurd ⟨h, hz⟩ h4
/-- What is tagged. -/
def hdB (p : Pk) : List UInt8 := numB 1 p.k ++ (clB p.i p.r p.x p.s ++ (numB 2 p.t ++ (wnB p.b p.c ++ (numB 2 (p.l.length : Int) ++ p.l))))
theorem hdB_len (p : Pk) : (hdB p).length = 20 + p.l.length := by simp [hdB, numB_length, clB_length, wnB_length]; omega
theorem byt_blkP {W w : World} {F : Bl} {ow : List Ro} {g b c n c' : Nat} {A : Option Addr} {l : List UInt8} {st : List UInt8 × Int} (h : WrAt W F ow g st w) (hm : (b, 30, #[.slice A n c']) ∈ F) (hn : l.length = n) (hs : Src W F ow 1 A l.length (by8 l)) (h6 : n ≤ 1000000) (hl : st.1.length ≤ 1024) :
    Calls Tryd.prog 23 #[.pointer (some ⟨g, 0, none⟩), .slice (some ⟨b, 0, none⟩) 1 c] w (WrPost W F ow g (putB st (bf A c' l))) := by
  subst hn
  have := wbytes_any W w F ow g st h [bf A c' l] (some ⟨b, 0, none⟩) c (Src.blk hm rfl) (by
    intro f hf
    obtain rfl : f = bf A c' l := by simpa using hf
    exact ⟨rfl, rfl, h6, hs⟩) hl (by simp [maxLen])
  exact this
/-- A field is put into a new writer, and taken out: what a number is, what bytes are. -/
theorem put_num {s n : Int} (hc : chkB (nf s n).s (nf s n).n (nf s n).l.length = 0) (hs : s ≠ 4) : putB ([], 0) (nf s n) = (numB (widB s) n, 0) := by
  rw [putB_nf rfl hc hs (by simp)]
  rfl
theorem put_byt (A : Option Addr) (c : Nat) {l : List UInt8} (h : l.length ≤ 512) : putB ([], 0) (bf A c l) = (numB 2 (l.length : Int) ++ l, 0) := by
  have ho : outB (bf A c l).s (bf A c l).n (bf A c l).l = numB 2 (l.length : Int) ++ l := rfl
  have hc : chkB (bf A c l).s (bf A c l).n (bf A c l).l.length = 0 := by
    show chkB 4 0 l.length = 0
    unfold chkB
    rw [if_neg (by omega), if_pos rfl, if_neg (by omega), if_neg (by omega)]
  rw [putB_ok rfl hc (by rw [ho]; simp [numB_length]; omega), ho]
  rfl
theorem OutPost.to {W w : World} {bl : Bl} {ow : List Ro} {g : Nat} {l : List UInt8} {en : Ending} (h : OutPost W bl ow g (l, 0) en w) : ∃ A c, en = .returned (.tuple #[.slice A l.length c, .int .i64 0]) ∧ Mst W w bl (⟨5, 1, .slice A l.length c, l.length, by8 l⟩ :: ow) := by
  obtain ⟨v, v2, rfl, m⟩ := h
  simp only [if_pos] at m
  obtain ⟨A, c, rfl, _⟩ := own_form (m.row [])
  exact ⟨A, c, rfl, m.sub (List.sublist_cons_self _ _) (List.Sublist.cons_cons _ (List.sublist_cons_self _ _))⟩
theorem WrAt.startP {W w : World} {bl : Bl} {ow : List Ro} {g : Nat} (h : Mst W w ((g, 58, #[.slice none 0 0, .int .i64 0]) :: bl) ow) : WrAt W bl ow g ([], 0) w := ⟨_, h.nilrow _ _⟩
theorem Mst.new3 {W w w2 : World} {bl : Bl} {ow : List Ro} {t : TypeId} {cs : Array Value} {g : Nat} (h : Mst W w bl ow) (hg : w.heap.size = g) (hw : ((w.alloc (.cells cs t)).alloc (.cells cs t)).alloc (.cells cs t) = w2) :
    Mst W w2 ((g + 1 + 1, t, cs) :: (g + 1, t, cs) :: (g, t, cs) :: bl) ow := by
  subst hw hg
  have m := ((h.new t cs).new t cs).new t cs
  simpa using m
set_option maxRecDepth 100000 in
set_option maxHeartbeats 4000000 in
theorem head_bad (p : Pk) (hT : p.T.length = 32) (w : World) (hchk : chkP p ≠ 0) : Calls Tryd.prog 15 #[.agg (pkc p)] w fun e w' => e = .returned (.tuple #[.slice none 0 0, .int .i64 (chkP p)]) ∧ Below w.heap.size w w' := by
  have m1 := (Mst.start w).new 33 (pkc p)
  have M1 := Lib.hid m1
  have HCK := Lib.hid (fun w' => pcheck_any p hT w')
  obtain ⟨C, hC⟩ : ∃ C, chkP p = C := ⟨_, rfl⟩
  rw [hC] at HCK hchk ⊢
  have hc1 : (C == 0) = false := by simpa using hchk
  have hc2 : (C != 0) = true := by simpa using hchk
  have HT := Lib.hid hT
  clear m1 hT hC hchk
  go_enter Tryd.func15, Tryd.ntmps15
  go_wp2_with (first | refine wpList_loadG rfl _ _ rfl w.heap.size 0 rfl (pkc p) _ (pkc_whole (M1.out.blk [])) Tryd.underlying33 rfl (info_pk HT.out) ?_)
  with_reducible refine (HCK.out _).mono ?_
  rintro r w1 ⟨rfl, hb⟩
  have Mq := Lib.hid (M1.out.below hb)
  clear hb
  go_wp2_with fail
  go_ret2
  exact ⟨rfl, Mq.out.bel⟩
set_option maxRecDepth 100000 in
set_option maxHeartbeats 8000000 in
theorem head_ok (p : Pk) (hT : p.T.length = 32) (w : World) (hchk : chkP p = 0) (hr : RB w w.heap.size p.A p.l) : Calls Tryd.prog 15 #[.agg (pkc p)] w fun e w' => ∃ v, e = .returned (.tuple #[v, .int .i64 0]) ∧ FrB w.heap.size w' v (hdB p) ∧ Below w.heap.size w w' := by
  have m1 := (Mst.start w).new 33 (pkc p)
  have M1 := Lib.hid m1
  obtain ⟨⟨hk1, hk2⟩, hcl, ⟨ht1, ht2⟩, hwn, hl5, -⟩ := chkP_ok hchk
  have HCK := Lib.hid (show ∀ w', Calls Tryd.prog 18 #[.agg (pkc p)] w' fun e w2 => e = .returned (.int .i64 0) ∧ Below w'.heap.size w' w2 from fun w' => by
    have h := pcheck_any p hT w'
    rw [hchk] at h
    exact h)
  have HCB := Lib.hid (fun w' => clbytes_ok p.i p.r p.x p.s w' hcl)
  have HNB := Lib.hid (fun w' => wnbytes_ok p.b p.c w' hwn)
  obtain ⟨L, hL⟩ : ∃ L, p.l.length = L := ⟨_, rfl⟩
  have HS1 := Lib.hid (show putB ([], 0) (nf 0 p.k) = (numB 1 p.k, 0) from put_num (s := 0) (n := p.k) (chk_nf0 (by omega) (by omega)) (by decide))
  have HS2 := Lib.hid (show putB ([], 0) (nf 1 p.t) = (numB 2 p.t, 0) from put_num (s := 1) (n := p.t) (chk_nf1 ht1 ht2) (by decide))
  have HS3 := Lib.hid (put_byt p.A p.cp hl5)
  have HSB := Lib.hid (show ∀ bl ow, Src w bl ow 1 p.A p.l.length (by8 p.l) from fun bl ow => Src.old hr)
  have HCE := Lib.hid (show ∀ w' bl' ow', Mst w w' ((w.heap.size, 33, pkc p) :: bl') ow' → w'.cell? ⟨w.heap.size, 0, none⟩ = some (.int .i64 p.k) ∧ w'.cell? ⟨w.heap.size, 1, none⟩ = some (.int .i64 p.i) ∧ w'.cell? ⟨w.heap.size, 2, none⟩ = some (.int .i64 p.r) ∧ w'.cell? ⟨w.heap.size, 3, none⟩ = some (.int .i64 p.x) ∧ w'.cell? ⟨w.heap.size, 4, none⟩ = some (.int .i64 p.s) ∧ w'.cell? ⟨w.heap.size, 5, none⟩ = some (.int .i64 p.t) ∧ w'.cell? ⟨w.heap.size, 6, none⟩ = some (.int .i64 p.b) ∧ w'.cell? ⟨w.heap.size, 7, none⟩ = some (.int .i64 p.c) ∧ w'.cell? ⟨w.heap.size, 8, none⟩ = some (.slice p.A L p.cp) from fun w' bl' ow' h => by
    have q := pkc_cells (h.blk [])
    rw [hL] at q
    exact q)
  have HLL := Lib.hid hL
  have HT := Lib.hid hT
  have HL5 := Lib.hid hl5
  have NK := Lib.hid (show p.k ≤ 9223372036854775807 by omega)
  have NT := Lib.hid (show p.t ≤ 9223372036854775807 by omega)
  clear m1 hT hchk hr hk1 hk2 hcl ht1 ht2 hwn hl5 hL
  go_enter Tryd.func15, Tryd.ntmps15
  go_wp2_with (first | refine wpList_loadG rfl _ _ rfl w.heap.size 0 rfl (pkc p) _ (pkc_whole (M1.out.blk [])) Tryd.underlying33 rfl (info_pk HT.out) ?_)
  with_reducible refine (HCK.out _).mono ?_
  rintro r w1 ⟨rfl, hb⟩
  have Mq := Lib.hid (M1.out.below hb)
  clear hb M1
  obtain ⟨c0, c1, c2, c3, c4, c5, c6, c7, c8⟩ := HCE.out _ _ _ Mq.out
  go_wp2_with fail
  with_reducible refine (HCB.out _).mono ?_
  rintro r w2 ⟨v, rfl, hf⟩
  obtain ⟨Ac, cc, rfl, -⟩ := own_form hf.own
  have Ma := Lib.hid (Mq.out.addr hf)
  clear hf c0 c1 c2 c3 c4 c5 c6 c7 c8
  obtain ⟨c0, c1, c2, c3, c4, c5, c6, c7, c8⟩ := HCE.out _ _ _ Ma.out
  go_wp2_with fail
  with_reducible refine (HNB.out _).mono ?_
  rintro r w3 ⟨v, rfl, hf⟩
  obtain ⟨An, cn, rfl, -⟩ := own_form hf.own
  have Mb := Lib.hid (Ma.out.addr hf)
  clear hf c0 c1 c2 c3 c4 c5 c6 c7 c8 Ma Mq
  go_upto_region 7 with fail
  generalize hwq : World.alloc (World.alloc (World.alloc _ _) _) _ = wq
  obtain ⟨g, hg⟩ : ∃ g, w3.heap.size = g := ⟨_, rfl⟩
  have Mq := Lib.hid (Mb.out.new3 hg hwq)
  simp only [hg]
  clear hwq hg Mb
  have HCE2 := Lib.hid (fun w' x1 x2 x3 ow' (h : Mst w w' (x1 :: x2 :: x3 :: (w.heap.size, 33, pkc p) :: []) ow') => HCE.out w' _ ow' (h.frontb [x1, x2, x3]))
  have HCE1 := Lib.hid (fun w' x1 x2 ow' (h : Mst w w' (x1 :: x2 :: (w.heap.size, 33, pkc p) :: []) ow') => HCE.out w' _ ow' (h.frontb [x1, x2]))
  have HCE0 := Lib.hid (fun w' x1 ow' (h : Mst w w' (x1 :: (w.heap.size, 33, pkc p) :: []) ow') => HCE.out w' _ ow' (h.frontb [x1]))
  obtain ⟨c0, c1, c2, c3, c4, c5, c6, c7, c8⟩ := HCE2.out _ _ _ _ _ Mq.out
  go_wp2_with fail
  generalize hwq : World.alloc _ _ = w5
  obtain ⟨b5, hb5, m5⟩ := Mq.out.newXP hwq
  simp only [hb5]
  have Q5 := Lib.hid (WrAt.startP (m5.frontb [_, _, _]))
  clear hwq hb5 m5 c0 c1 c2 c3 c4 c5 c6 c7 c8
  with_reducible refine (num_blk Q5.out (List.mem_cons_self ..) NK.out (by decide)).mono ?_
  rintro r w6 ⟨rfl, h6⟩
  rw [HS1.out] at h6
  have HO6 := Lib.hid (wout_any w w6 _ _ g _ h6 (by rw [numB_length]; decide))
  clear h6 Q5 Mq
  go_wp2_with fail
  with_reducible refine (HO6.out).mono ?_
  rintro r w7 ho
  obtain ⟨A7, e7, rfl, m7⟩ := ho.to
  rw [numB_length] at m7 ⊢
  have Mq := Lib.hid (show Mst w w7 [(g + 1 + 1, 58, #[.slice none 0 0, .int .i64 0]), (g + 1, 58, #[.slice none 0 0, .int .i64 0]), (w.heap.size, 33, pkc p)] _ from m7.sub (List.sublist_cons_self _ _) (List.Sublist.refl _))
  clear m7 ho HO6
  obtain ⟨c0, c1, c2, c3, c4, c5, c6, c7, c8⟩ := HCE1.out _ _ _ _ Mq.out
  go_wp2_with fail
  generalize hwq : World.alloc _ _ = w8
  obtain ⟨b8, hb8, m8⟩ := Mq.out.newXP hwq
  simp only [hb8]
  have Q8 := Lib.hid (WrAt.startP (m8.frontb [_, _]))
  clear hwq hb8 m8 c0 c1 c2 c3 c4 c5 c6 c7 c8
  with_reducible refine (num_blk Q8.out (List.mem_cons_self ..) NT.out (by decide)).mono ?_
  rintro r w9 ⟨rfl, h9⟩
  rw [HS2.out] at h9
  have HO9 := Lib.hid (wout_any w w9 _ _ (g + 1) _ h9 (by rw [numB_length]; decide))
  clear h9 Q8 Mq
  go_wp2_with fail
  with_reducible refine (HO9.out).mono ?_
  rintro r w10 ho
  obtain ⟨A10, e10, rfl, m10⟩ := ho.to
  rw [numB_length] at m10 ⊢
  have Mq := Lib.hid (show Mst w w10 [(g + 1 + 1, 58, #[.slice none 0 0, .int .i64 0]), (w.heap.size, 33, pkc p)] _ from m10.sub (List.sublist_cons_self _ _) (List.Sublist.refl _))
  clear m10 ho HO9
  obtain ⟨c0, c1, c2, c3, c4, c5, c6, c7, c8⟩ := HCE0.out _ _ _ Mq.out
  go_wp2_with fail
  generalize hwq : World.alloc _ _ = w11
  obtain ⟨b11, hb11, m11⟩ := Mq.out.newXP hwq
  simp only [hb11]
  have Q11 := Lib.hid (WrAt.startP (m11.frontb [_]))
  clear hwq hb11 m11 c0 c1 c2 c3 c4 c5 c6 c7 c8
  with_reducible refine (byt_blkP Q11.out (List.mem_cons_self ..) HLL.out (HSB.out _ _) (by have := HL5.out; have := HLL.out; omega) (by decide)).mono ?_
  rintro r w12 ⟨rfl, h12⟩
  rw [HS3.out] at h12
  have HO12 := Lib.hid (wout_any w w12 _ _ (g + 1 + 1) _ h12 (by rw [List.length_append, numB_length]; have := HL5.out; omega))
  clear h12 Q11 Mq
  go_wp2_with fail
  with_reducible refine (HO12.out).mono ?_
  rintro r w13 ho
  obtain ⟨A13, e13, rfl, m13⟩ := ho.to
  rw [List.length_append, numB_length, HLL.out] at m13 ⊢
  have Mq := Lib.hid (show Mst w w13 [(w.heap.size, 33, pkc p)] _ from m13.sub (List.sublist_cons_self _ _) (List.Sublist.refl _))
  clear m13 ho HO12
  go_wp2_with fail
  generalize hwq : World.alloc _ _ = w14
  obtain ⟨b14, y14, hb14, m14, hp14⟩ := Mq.out.ptsX [⟨A7, e7, numB 1 p.k⟩, ⟨Ac, cc, clB p.i p.r p.x p.s⟩, ⟨A10, e10, numB 2 p.t⟩, ⟨An, cn, wnB p.b p.c⟩, ⟨A13, e13, numB 2 (p.l.length : Int) ++ p.l⟩] (by
    intro q hq
    simp only [List.mem_cons, List.not_mem_nil, or_false] at hq
    rcases hq with rfl | rfl | rfl | rfl | rfl
    · show Src w _ _ 1 A7 (numB 1 p.k).length (by8 (numB 1 p.k))
      rw [numB_length]
      exact Mq.out.rowSrc (e := 5) (c := e7) (by simp)
    · show Src w _ _ 1 Ac (clB p.i p.r p.x p.s).length (by8 (clB p.i p.r p.x p.s))
      rw [clB_length]
      exact Mq.out.rowSrc (e := 5) (c := cc) (by simp)
    · show Src w _ _ 1 A10 (numB 2 p.t).length (by8 (numB 2 p.t))
      rw [numB_length]
      exact Mq.out.rowSrc (e := 5) (c := e10) (by simp)
    · show Src w _ _ 1 An (wnB p.b p.c).length (by8 (wnB p.b p.c))
      rw [wnB_length]
      exact Mq.out.rowSrc (e := 5) (c := cn) (by simp)
    · show Src w _ _ 1 A13 (numB 2 (p.l.length : Int) ++ p.l).length (by8 (numB 2 (p.l.length : Int) ++ p.l))
      rw [List.length_append, numB_length, HLL.out]
      exact Mq.out.rowSrc (e := 5) (c := e13) (List.mem_cons_self ..)) (by simp only [List.map_cons, List.map_nil, Pt.v, numB_length, clB_length, wnB_length, List.length_append, HLL.out]) (by simp) hwq
  simp only [hb14]
  have HJ := Lib.hid (bjoin_any w14 b14 5 5 _ rfl (by decide) (by decide) hp14 (by decide) (by have := HL5.out; simp [catP, numB_length, clB_length, wnB_length]; omega) (by simp [catP, numB_length]; omega))
  have hcat : catP [⟨A7, e7, numB 1 p.k⟩, ⟨Ac, cc, clB p.i p.r p.x p.s⟩, ⟨A10, e10, numB 2 p.t⟩, ⟨An, cn, wnB p.b p.c⟩, ⟨A13, e13, numB 2 (p.l.length : Int) ++ p.l⟩] = hdB p := by simp [catP, hdB]
  rw [hcat] at HJ
  have Mz := Lib.hid m14
  clear hwq hb14 m14 hp14 hcat Mq
  with_reducible refine (HJ.out).mono ?_
  rintro r w15 ⟨v, rfl, hf, hb⟩
  have HF := Lib.hid (hf.base Mz.out.bel.size)
  have HB := Lib.hid (Mz.out.below hb).bel
  clear hf hb
  go_wp2_with fail
  go_ret2
  exact ⟨v, rfl, HF.out, HB.out⟩
end Go.Proofs.YtnbemfceoianiaaDoor

/- Packets: Bytes, Size, Same. -/
namespace Go.Proofs.YtnbemfceoianiaaDoor
set_option linter.unusedVariables false
set_option linter.unusedSimpArgs false
open Go.RowKit
set_option maxRecDepth 100000 in
set_option maxHeartbeats 4000000 in
theorem pbytes_bad (p : Pk) (hT : p.T.length = 32) (w : World) (hchk : chkP p ≠ 0) : Calls Tryd.prog 12 #[.agg (pkc p)] w fun e w' => e = .returned (.tuple #[.slice none 0 0, .int .i64 (chkP p)]) ∧ Below w.heap.size w w' := by
  have m1 := (Mst.start w).new 33 (pkc p)
  have M1 := Lib.hid m1
  have HCK := Lib.hid (fun w' => head_bad p hT w' hchk)
  obtain ⟨C, hC⟩ : ∃ C, chkP p = C := ⟨_, rfl⟩
  rw [hC] at HCK hchk ⊢
  have hc1 : (C == 0) = false := by simpa using hchk
  have hc2 : (C != 0) = true := by simpa using hchk
  have HT := Lib.hid hT
  clear m1 hT hC hchk
  go_enter Tryd.func12, Tryd.ntmps12
  go_wp2_with (first | refine wpList_loadG rfl _ _ rfl w.heap.size 0 rfl (pkc p) _ (pkc_whole (M1.out.blk [])) Tryd.underlying33 rfl (info_pk HT.out) ?_)
  with_reducible refine (HCK.out _).mono ?_
  rintro r w1 ⟨rfl, hb⟩
  have Mq := Lib.hid (M1.out.below hb)
  clear hb
  go_wp2_with fail
  go_ret2
  exact ⟨rfl, Mq.out.bel⟩
set_option maxRecDepth 100000 in
set_option maxHeartbeats 4000000 in
theorem pbytes_ok (p : Pk) (hT : p.T.length = 32) (w : World) (hchk : chkP p = 0) (hr : RB w w.heap.size p.A p.l) : Calls Tryd.prog 12 #[.agg (pkc p)] w fun e w' => ∃ v, e = .returned (.tuple #[v, .int .i64 0]) ∧ FrB w.heap.size w' v (hdB p ++ p.T) ∧ Below w.heap.size w w' := by
  have m1 := (Mst.start w).new 33 (pkc p)
  have M1 := Lib.hid m1
  have hl5 := (chkP_ok hchk).2.2.2.2.1
  have HCK := Lib.hid (show ∀ w', Below w.heap.size w w' → _ from fun w' hb => head_ok p hT w' hchk ((RB.below hr hb).more hb.size))
  have HT := Lib.hid hT
  have HL := Lib.hid (show (hdB p).length + 32 ≤ 1000000 from by rw [hdB_len]; omega)
  have HLD := Lib.hid (hdB_len p)
  clear m1 hT hchk hr hl5
  go_enter Tryd.func12, Tryd.ntmps12
  go_wp2_with (first | refine wpList_loadG rfl _ _ rfl w.heap.size 0 rfl (pkc p) _ (pkc_whole (M1.out.blk [])) Tryd.underlying33 rfl (info_pk HT.out) ?_)
  with_reducible refine (HCK.out _ M1.out.bel).mono ?_
  rintro r w1 ⟨v, rfl, hf, hb⟩
  have HF := Lib.hid (hf.base M1.out.bel.size)
  have Mq := Lib.hid (M1.out.below hb)
  obtain ⟨A1, e1, rfl, -⟩ := hf.rb
  clear hf hb M1
  go_wp2_with (at_builtin; refine wpList_appFr rfl _ _ rfl rfl _ HF.out rfl ⟨w.heap.size, 9, none⟩ 32 32 p.T rfl HT.out (pkc_rb (Mq.out.blk [])) (by decide) HL.out ?_; intro v2 w2 hf2 hb2; have HF2 := Lib.hid hf2; have HB2 := Lib.hid (Mq.out.bel.trans hb2); clear hf2 hb2)
  go_ret2
  exact ⟨v2, rfl, HF2.out, HB2.out⟩
end Go.Proofs.YtnbemfceoianiaaDoor

/- Packets: the law's known. -/
namespace Go.Proofs.YtnbemfceoianiaaDoor
set_option linter.unusedVariables false
set_option linter.unusedSimpArgs false
open Go.RowKit
def Pkk : Pk := ⟨7, 5, 0, 0, 1, 6, 1, 1, none, [], 0, Z32⟩
theorem chk_known : chkP Pkk = 0 := by
  have h1 : clOk 5 0 0 1 := ⟨by decide, by decide, by decide, by decide⟩
  have h2 : wnOk 1 1 := ⟨by decide, by decide, by decide, by decide⟩
  unfold chkP
  rw [if_neg (by simp [Pkk]), if_neg (by
    rintro (h | h | h | h)
    · exact h h1
    · exact absurd h (by simp [Pkk])
    · exact absurd h (by simp [Pkk])
    · exact h h2), if_neg (by simp [Pkk]), if_neg (by simp [Pkk])]
set_option maxRecDepth 100000 in
theorem build_known (w : World) : (Instr.build 33 #[(0, .int .i64 7), (1, .agg #[.int .i64 5, .int .i64 0, .int .i64 0, .int .i64 1]), (2, .int .i64 6), (3, .agg #[.int .i64 1, .int .i64 1])]).run Tryd.prog w = .ok (.agg (pkc Pkk)) w := by kernel_rfl
theorem known_hd : (by8 (hdB Pkk ++ Pkk.T))[0]? = some (.int .u8 7) := by
  have e : hdB Pkk ++ Pkk.T = nbyte 7 0 :: (clB 5 0 0 1 ++ (numB 2 6 ++ (wnB 1 1 ++ (numB 2 (([] : List UInt8).length : Int) ++ [])))) ++ Z32 := rfl
  rw [e]
  have e2 : (nbyte 7 0) = 7 := by decide
  rw [e2]
  rfl
set_option maxRecDepth 100000 in
set_option maxHeartbeats 4000000 in
theorem known14_any (w : World) : Calls Tryd.prog 5 #[] w fun e w' => e = .returned (.bool true) ∧ Below w.heap.size w w' := by
  have HB := Lib.hid (fun w' => pbytes_ok Pkk rfl w' chk_known (Rd.nil_ _ _ _ _))
  have HL := Lib.hid (show (hdB Pkk ++ Pkk.T).length = 52 from by rw [List.length_append, hdB_len]; rfl)
  have HH := Lib.hid known_hd
  have HBU := Lib.hid (fun w' => build_known w')
  obtain ⟨K, hK⟩ : ∃ K, Pkk = K := ⟨_, rfl⟩
  rw [hK] at HB HL HH HBU
  clear hK
  go_enter Tryd.func5, Tryd.ntmps5
  go_wp2_with (first | refine wpList_buildP rfl _ _ rfl [(0, .int .i64 7), (1, .agg #[.int .i64 5, .int .i64 0, .int .i64 0, .int .i64 1]), (2, .int .i64 6), (3, .agg #[.int .i64 1, .int .i64 1])] rfl (.agg (pkc K)) (HBU.out _) ?_)
  with_reducible refine (HB.out _).mono ?_
  rintro r w1 ⟨v, rfl, hf, hb⟩
  obtain ⟨g, c, rfl, h1, h2, h3, h4, h5, h6⟩ := hf
  have c0 := h5 0 _ HH.out
  rw [HL.out] at h3 ⊢
  have HBB := Lib.hid hb
  clear h1 h2 h3 h4 h5 h6 hb HB HL HH HBU
  go_wp2_with fail
  go_ret
  exact ⟨rfl, HBB.out⟩
end Go.Proofs.YtnbemfceoianiaaDoor
