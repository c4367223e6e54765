/- The document's seal: contract of Open; both answers in one word. -/
import Derived.Test.YtiakgohipnbdbaaSr4
import Derived.Test.YtiakgohipnbdbaaSe6
namespace Go.Proofs.Ytiakgohipnbdbaa
set_option linter.unusedVariables false
set_option linter.unusedSimpArgs false
open Go.RowKit

theorem Mst.rbArr {W w : World} {bl : Bl} {ow : List Ro} {g : Nat} {t : TypeId} {T : List UInt8} (h : Mst W w bl ow) (hm : (g, t, b8a T) ∈ bl) : RB w w.heap.size (some ⟨g, 0, none⟩) T := h.src (Src.arr hm rfl)
structure RoR (w wr : World) (KT : Array Value) (T : List UInt8) (v : Value) : Prop where
  m : ∃ g, v = .pointer (some ⟨g, 0, none⟩) ∧ Mst w wr [(g, 119, b8a T), (w.heap.size, 61, KT)] []
/-- What sealed bytes are opened as: the bytes, and the error. -/
def opE (kb nc bd l : List UInt8) : List UInt8 × Nat :=
  if 32 < nc.length then ([], 1) else if l.length < 32 then ([], 4) else if opOk kb nc bd l then (opL kb nc l, 0) else ([], 5)
theorem opE_arg {kb nc bd l : List UInt8} (h : 32 < nc.length) : opE kb nc bd l = ([], 1) := by rw [opE, if_pos h]
theorem opE_end {kb nc bd l : List UInt8} (h : nc.length ≤ 32) (h2 : l.length < 32) : opE kb nc bd l = ([], 4) := by rw [opE, if_neg (by omega), if_pos h2]
theorem opE_ok {kb nc bd l : List UInt8} (h : nc.length ≤ 32) (h2 : 32 ≤ l.length) (h3 : opOk kb nc bd l = true) : opE kb nc bd l = (opL kb nc l, 0) := by rw [opE, if_neg (by omega), if_neg (by omega), if_pos h3]
theorem opE_tag {kb nc bd l : List UInt8} (h : nc.length ≤ 32) (h2 : 32 ≤ l.length) (h3 : opOk kb nc bd l = false) : opE kb nc bd l = ([], 5) := by rw [opE, if_neg (by omega), if_neg (by omega), if_neg (by simp [h3])]
theorem opL_len {kb nc l : List UInt8} : (opL kb nc l).length = l.length - 32 := by rw [opL, bodyB_len, List.length_take]; omega
def RetE (w : World) (r : List UInt8 × Nat) (e : Ending) (w' : World) : Prop := ∃ A' c', e = .returned (.tuple #[.slice A' r.1.length c', .int .i64 (r.2 : Int)]) ∧ Below w.heap.size w w' ∧ NewB w w' A' r.1
theorem RetE.nil {w w' : World} {k : Nat} {e : Ending} (h : e = .returned (.tuple #[.slice none 0 0, .int .i64 (k : Int)])) (hb : Below w.heap.size w w') : RetE w ([], k) e w' := ⟨none, 0, h, hb, .inl rfl⟩

theorem open_all (w : World) (gk : Nat) (kb : List UInt8) (hk : KeyW w gk kb) (hkl : kb.length ≤ 1000) (A : Option Addr) (c : Nat) (nc : List UInt8) (hr : RB w w.heap.size A nc)
    (Ad : Option Addr) (cd : Nat) (bd : List UInt8) (hrd : RB w w.heap.size Ad bd) (hnd : bd.length ≤ 1000) (As : Option Addr) (cs : Nat) (l : List UInt8) (hrs : RB w w.heap.size As l) (hl2 : l.length ≤ 65568) (hcs : l.length ≤ cs) (hcs2 : cs ≤ 9223372036854775807) :
    Calls Try.prog 40 #[.pointer (some ⟨gk, 0, none⟩), .slice A nc.length c, .slice Ad bd.length cd, .slice As l.length cs] w (RetE w (opE kb nc bd l)) := by
  by_cases h1 : 32 < nc.length
  · rw [opE_arg h1]
    refine (open_arg w gk A nc.length c _ As l.length cs h1).mono ?_
    rintro e w' ⟨h, rfl⟩
    exact RetE.nil h (Below.refl _ _)
  · by_cases h2 : l.length < 32
    · rw [opE_end (by omega) h2]
      refine (open_end w gk A nc.length c _ As l.length cs (by omega) h2).mono ?_
      rintro e w' ⟨h, rfl⟩
      exact RetE.nil h (Below.refl _ _)
    · refine (open_any w gk kb hk hkl A c nc hr (by omega) Ad cd bd hrd hnd As cs l hrs (by omega) hl2 hcs hcs2).mono ?_
      rintro e w' ⟨a1, a2⟩
      cases h3 : opOk kb nc bd l with
      | true =>
        obtain ⟨A', c', e1, e2, e3⟩ := a1 h3
        rw [opE_ok (by omega) (by omega) h3]
        exact ⟨A', c', by rw [e1]; simp only [opL_len]; rfl, e2, e3⟩
      | false =>
        obtain ⟨e1, e2⟩ := a2 h3
        rw [opE_tag (by omega) (by omega) h3]
        exact RetE.nil e1 e2

section
variable (KT : Array Value) (w : World) (v1 v3 : Value) (A : Option Addr) (N c : Nat) (As : Option Addr) (n cs : Nat)
theorem refopen_arg (h : 32 < N) : Calls Try.prog 42 #[.agg KT, v1, .slice A N c, v3, .slice As n cs] w fun e w' => e = .returned (.tuple #[.slice none 0 0, .int .i64 1]) ∧ Below w.heap.size w w' := by
  have i1 : (32 : Int) < N := by omega
  have i2 : decide (32 < N) = true := by simp; omega
  go_enter Try.func42, Try.ntmps42
  go_wp2
  go_ret2
  exact ⟨rfl, (Below.refl _ _).alloc (Nat.le_refl _) _⟩
theorem refopen_end (h : N ≤ 32) (h2 : n < 32) : Calls Try.prog 42 #[.agg KT, v1, .slice A N c, v3, .slice As n cs] w fun e w' => e = .returned (.tuple #[.slice none 0 0, .int .i64 4]) ∧ Below w.heap.size w w' := by
  have i1 : ¬ (32 : Int) < N := by omega
  have i3 : (n : Int) < 32 := by omega
  have i2 : decide ((n : Int) - 32 < 0) = true := by simp; omega
  go_enter Try.func42, Try.ntmps42
  go_wp2
  go_ret2
  exact ⟨rfl, (Below.refl _ _).alloc (Nat.le_refl _) _⟩
end

set_option maxRecDepth 100000 in
set_option maxHeartbeats 1600000 in
theorem refopen_any (KT : Array Value) (hKT : RSum KT) (w : World) (Ak : Option Addr) (ck : Nat) (key : List UInt8) (hk : RB w w.heap.size Ak key) (hkl : key.length ≤ 1000) (A : Option Addr) (c : Nat) (nc : List UInt8) (hr : RB w w.heap.size A nc) (hn : nc.length ≤ 32)
    (Ad : Option Addr) (cd : Nat) (bd : List UInt8) (hrd : RB w w.heap.size Ad bd) (hnd : bd.length ≤ 1000) (As : Option Addr) (cs : Nat) (l : List UInt8) (hrs : RB w w.heap.size As l) (hl1 : 32 ≤ l.length) (hl2 : l.length ≤ 1000) (hcs : l.length ≤ cs) (hcs2 : cs ≤ 9223372036854775807) :
    Calls Try.prog 42 #[.agg KT, .slice Ak key.length ck, .slice A nc.length c, .slice Ad bd.length cd, .slice As l.length cs] w (RetE w (opE key nc bd l)) := by
  have hopE : opE key nc bd l = if opOk key nc bd l then (opL key nc l, 0) else ([], 5) := by rw [opE, if_neg (by omega), if_neg (by omega)]
  rw [hopE]
  obtain ⟨n, hn0⟩ : ∃ n, l.length = n + 32 := ⟨l.length - 32, by omega⟩
  obtain ⟨bs, os, rfl, hbw, _⟩ := hrs.2 (by omega)
  have hbody : (l.take n).length = n := by rw [List.length_take]; omega
  have hdrop : (l.drop n).length = 32 := by rw [List.length_drop]; omega
  have hok : opOk key nc bd l = decide (sTag key nc bd (l.take n) = l.drop n) := by rw [opOk, hn0]; rfl
  have hoL : opL key nc l = bodyB key nc (l.take n) := by rw [opL, hn0]; rfl
  rw [hn0] at hl2 hcs
  rw [hok, hoL, hn0]
  have hrb : RB w w.heap.size (some ⟨bs, os, none⟩) (l.take n) := hrs.cut n
  have hrd2 : RB w w.heap.size (some ⟨bs, os + n, none⟩) (l.drop n) := hrs.dropn n
  obtain ⟨B, hB⟩ : ∃ B, l.take n = B := ⟨_, rfl⟩
  obtain ⟨R, hR⟩ : ∃ R, l.drop n = R := ⟨_, rfl⟩
  rw [hB] at hbody hrb ⊢
  rw [hR] at hdrop hrd2 ⊢
  clear hok hoL hrs hB hR hl1 hn0 hopE
  have HS := Lib.hid (show ∀ w', Below w.heap.size w w' → _ from fun w' hb => refstream_any KT hKT w' Ak ck key (hk.keep hb) hkl A c nc (hr.keep hb) hn n (by omega))
  have HTU := Lib.hid (show ∀ w2 A' c', Below w.heap.size w w2 → RB w2 w2.heap.size A' (strB (hideK key) nc n) → Calls Try.prog 73 #[.slice (some ⟨bs, os, none⟩) n cs, .slice A' n c'] w2 (RetB w2 n (bodyB key nc B)) from fun w2 A' c' hb h => by
    have := refturned_any w2 (some ⟨bs, os, none⟩) cs B (hrb.keep hb) A' c' _ h (by rw [strB_len]; omega) (by omega)
    rw [strB_len, hbody] at this
    rw [show bodyB key nc B = trn B (strB (hideK key) nc n) by rw [bodyB, hbody]]
    exact this)
  obtain ⟨T, hT⟩ : ∃ l, sTag key nc bd B = l := ⟨_, rfl⟩
  have hTl : T.length = 32 := by rw [← hT]; rfl
  have HTG := Lib.hid (show ∀ w', Below w.heap.size w w' → Calls Try.prog 72 #[.agg KT, .slice Ak key.length ck, .slice A nc.length c, .slice Ad bd.length cd, .slice (some ⟨bs, os, none⟩) n cs] w' fun e w2 => e = .returned (.agg (b8a T)) ∧ Below w'.heap.size w' w2 from fun w' hb => by
    have := reftag3_any KT hKT w' Ak ck key (hk.keep hb) hkl A c nc (hr.keep hb) (by omega) Ad cd bd (hrd.keep hb) hnd (some ⟨bs, os, none⟩) cs B (hrb.keep hb) (by omega)
    rw [hT, hbody] at this
    exact this)
  have HEQ := Lib.hid (show ∀ w' g c', Below w.heap.size w w' → RB w' w'.heap.size (some ⟨g, 0, none⟩) T → Calls Try.prog 22 #[.slice (some ⟨g, 0, none⟩) 32 32, .slice (some ⟨bs, os + n, none⟩) 32 c'] w' fun e w2 => e = .returned (.bool (decide (T = R))) ∧ Below w'.heap.size w' w2 from fun w' g c' hb h => by
    have := same_any (some ⟨g, 0, none⟩) (some ⟨bs, os + n, none⟩) 32 c' T R w' h (hrd2.keep hb) (by rw [hTl]; decide)
    rw [hTl, hdrop] at this
    exact this)
  rw [hT]
  have hBBL : (bodyB key nc B).length = n := by rw [bodyB_len, hbody]
  obtain ⟨BB, hBB⟩ : ∃ l, bodyB key nc B = l := ⟨_, rfl⟩
  rw [hBB] at HTU hBBL ⊢
  obtain ⟨N, hN⟩ : ∃ n, nc.length = n := ⟨_, rfl⟩
  obtain ⟨D, hD⟩ : ∃ n, bd.length = n := ⟨_, rfl⟩
  obtain ⟨KN, hKN⟩ : ∃ n, key.length = n := ⟨_, rfl⟩
  rw [hN] at HS HTG hn ⊢
  rw [hD] at HTG hnd ⊢
  rw [hKN] at HS HTG ⊢
  have HTL := Lib.hid hTl
  have HBBL := Lib.hid hBBL
  have i1 : ¬ (32 : Int) < N := by omega
  have i2 : decide (65536 < (n : Int)) = false := by simp; omega
  have i3 : (n : Int) + 32 ≤ cs := by omega
  have i4 : (n : Int) ≤ 65536 := by omega
  have i5 : (0 : Int) ≤ n := by omega
  have i6 : (cs : Int) ≤ 9223372036854775807 := by omega
  have i7 : (n : Int) ≤ cs := by omega
  obtain ⟨ok, hok⟩ : ∃ b, decide (T = R) = b := ⟨_, rfl⟩
  rw [hok] at HEQ ⊢
  have hu : ∃ d, Try.prog.underlying 61 = some d ∧ d.isRow = true := ⟨_, Try.underlying61, rfl⟩
  obtain ⟨d, hu, hd⟩ := hu
  have hki := hKT.infL
  have hki2 := hKT.inf
  have Mq := Lib.hid ((Mst.start w).new 61 KT).drew
  clear hk hr hrd hrb hrd2 hN hD hKN hT hTl hbody hdrop hok hBB hBBL
  go_enter Try.func42, Try.ntmps42
  go_upto_region 8 with fail
  go_cut [13] (fun s13 wr => RoR w wr KT T s13)
  case first =>
    generalize hw0 : World.alloc w _ = w0
    have Mq := Lib.hid (show Mst w w0.drew [(w.heap.size, 61, KT)] [] by rw [← hw0]; exact Mq.out)
    have k0 := (Mq.out.blk []).rangeL
    clear hw0
    refine wp_region_held_drew (S := fun w' => w'.rangeAt w.heap.size 0 KT.toList) (by kernel_rfl) ?_ (fun hHeld => ?_)
    · exact k0
    generalize World.drew w0 = w1 at Mq hHeld ⊢
    refine wpAnyH_take (i := 0) rfl (by kernel_rfl) (by kernel_rfl) (by kernel_rfl) (fun _ _ _ h => h) (yieldsIf_load_mid (by rfl) _ _ rfl _ _ rfl _ _ (fun w hw => hw) hu hd hki) (by assumption) ?_
    change wpAnyH _ _ _ _ _ _ _ (Act.put _ (some 24) _) _
    simp only [Act.put, List.setIfInBounds_toArray, List.set_cons_zero, List.set_cons_succ, Array.toArray_toList]
    refine wpAnyH_take (i := 1) (v := ?_) rfl (by kernel_rfl) (by kernel_rfl) (by kernel_rfl) (fun _ _ _ h => h) (Or.inl ⟨by rfl, ?_⟩) (by assumption) ?_
    rotate_left
    · intro w hSw; (try dsimp only at hSw); go_split_ands; go_simp; with_reducible rfl
    change wpAnyH _ _ _ _ _ _ _ (Act.put _ (some 25) _) _
    simp only [Act.put, List.setIfInBounds_toArray, List.set_cons_zero, List.set_cons_succ, Array.toArray_toList]
    refine wpAnyH_take (i := 2) (v := ?_) rfl (by kernel_rfl) (by kernel_rfl) (by kernel_rfl) (fun _ _ _ h => h) (Or.inl ⟨by rfl, ?_⟩) (by assumption) ?_
    rotate_left
    · intro w hSw; (try dsimp only at hSw); go_split_ands; go_simp; with_reducible rfl
    change wpAnyH _ _ _ _ _ _ _ (Act.put _ (some 26) _) _
    simp only [Act.put, List.setIfInBounds_toArray, List.set_cons_zero, List.set_cons_succ, Array.toArray_toList]
    refine wpAnyH_take (i := 3) (v := ?_) rfl (by kernel_rfl) (by kernel_rfl) (by kernel_rfl) (fun _ _ _ h => h) (Or.inl ⟨by rfl, ?_⟩) (by assumption) ?_
    rotate_left
    · intro w hSw; (try dsimp only at hSw); go_split_ands; go_simp; with_reducible rfl
    change wpAnyH _ _ _ _ _ _ _ (Act.put _ (some 27) _) _
    simp only [Act.put, List.setIfInBounds_toArray, List.set_cons_zero, List.set_cons_succ, Array.toArray_toList]
    refine wpAnyH_take (i := 4) (v := ?_) rfl (by kernel_rfl) (by kernel_rfl) (by kernel_rfl) (fun _ _ _ h => h) (Or.inl ⟨by rfl, ?_⟩) (by assumption) ?_
    rotate_left
    · intro w hSw; (try dsimp only at hSw); go_split_ands; go_simp; with_reducible rfl
    change wpAnyH _ _ _ _ _ _ _ (Act.put _ (some 28) _) _
    simp only [Act.put, List.setIfInBounds_toArray, List.set_cons_zero, List.set_cons_succ, Array.toArray_toList]
    refine wpAnyH_take (i := 5) (v := ?_) rfl (by kernel_rfl) (by kernel_rfl) (by kernel_rfl) (fun _ _ _ h => h) (Or.inl ⟨by rfl, ?_⟩) (by assumption) ?_
    rotate_left
    · intro w hSw; (try dsimp only at hSw); go_split_ands; go_simp; with_reducible rfl
    change wpAnyH _ _ _ _ _ _ _ (Act.put _ (some 29) _) _
    simp only [Act.put, List.setIfInBounds_toArray, List.set_cons_zero, List.set_cons_succ, Array.toArray_toList]
    refine wpAnyH_take (i := 6) (v := ?_) rfl (by kernel_rfl) (by kernel_rfl) (by kernel_rfl) (fun _ _ _ h => h) (Or.inl ⟨by rfl, ?_⟩) (by assumption) ?_
    rotate_left
    · intro w hSw; (try dsimp only at hSw); go_split_ands; go_simp; with_reducible rfl
    change wpAnyH _ _ _ _ _ _ _ (Act.put _ (some 30) _) _
    simp only [Act.put, List.setIfInBounds_toArray, List.set_cons_zero, List.set_cons_succ, Array.toArray_toList]
    refine wpAnyH_ready (rs := [7, 8]) (by kernel_rfl) (by simp) ?_
    refine (AllReadyH.cons rfl (fun K hK => ?_) (AllReadyH.cons rfl (fun K hK => ?_) AllReadyH.nil))
    · skip
      go_simp
      (with_reducible refine (HTG.out _ Mq.out.bel).mono ?_); rintro e wq ⟨rfl, hb⟩; have Mq := Lib.hid (Mq.out.below hb); clear hb
      go_wp2_with fail
      refine hK.out _ _ (by first | exact (Mq.out.blk []).rangeL | exact (Mq.out.blk [_]).rangeL) (fun hHeld => ?_)
      clear hK K
      refine wpAnyH_ready (rs := [8]) (by kernel_rfl) (by simp) ?_
      refine (AllReadyH.cons rfl (fun K hK => ?_) AllReadyH.nil)
      go_simp; generalize hwq : World.alloc _ _ = wq2; obtain ⟨g12, hg12, mq⟩ := Mq.out.newX hwq; rw [hg12]; have Mq := Lib.hid mq; clear hwq hg12 mq
      refine hK.out _ _ (by first | exact (Mq.out.blk []).rangeL | exact (Mq.out.blk [_]).rangeL) (fun hHeld => ?_)
      clear hK K
      refine wpAnyH_ready (rs := [9]) (by kernel_rfl) (by simp) ?_
      refine (AllReadyH.cons rfl (fun K hK => ?_) AllReadyH.nil)
      refine step_store_row rfl _ _ _ rfl g12 (b8a T) rfl rfl 119 _ (Mq.out.blk []) (info_k HTL.out) (y32_k HTL.out) (b8a_one T) ?_; have Mq := Lib.hid (Mst.setRow (bl := []) [] Mq.out (b8a T))
      refine hK.out _ _ (by first | exact (Mq.out.blk []).rangeL | exact (Mq.out.blk [_]).rangeL) (fun hHeld => ?_)
      clear hK K
      refine wpAnyH_done (by kernel_rfl) ?_ _
      simp only [Act.put]
      go_wp2_with fail
      go_meet
      exact ⟨_, rfl, Mq.out⟩
    · skip
      go_simp; generalize hwq : World.alloc _ _ = wq2; obtain ⟨g12, hg12, mq⟩ := Mq.out.newX hwq; rw [hg12]; have Mq := Lib.hid mq; clear hwq hg12 mq
      refine hK.out _ _ (by first | exact (Mq.out.blk []).rangeL | exact (Mq.out.blk [_]).rangeL) (fun hHeld => ?_)
      clear hK K
      refine wpAnyH_ready (rs := [7]) (by kernel_rfl) (by simp) ?_
      refine (AllReadyH.cons rfl (fun K hK => ?_) AllReadyH.nil)
      go_simp
      (with_reducible refine (HTG.out _ Mq.out.bel).mono ?_); rintro e wq ⟨rfl, hb⟩; have Mq := Lib.hid (Mq.out.below hb); clear hb
      go_wp2_with fail
      refine hK.out _ _ (by first | exact (Mq.out.blk []).rangeL | exact (Mq.out.blk [_]).rangeL) (fun hHeld => ?_)
      clear hK K
      refine wpAnyH_ready (rs := [9]) (by kernel_rfl) (by simp) ?_
      refine (AllReadyH.cons rfl (fun K hK => ?_) AllReadyH.nil)
      refine step_store_row rfl _ _ _ rfl g12 (b8a T) rfl rfl 119 _ (Mq.out.blk []) (info_k HTL.out) (y32_k HTL.out) (b8a_one T) ?_; have Mq := Lib.hid (Mst.setRow (bl := []) [] Mq.out (b8a T))
      refine hK.out _ _ (by first | exact (Mq.out.blk []).rangeL | exact (Mq.out.blk [_]).rangeL) (fun hHeld => ?_)
      clear hK K
      refine wpAnyH_done (by kernel_rfl) ?_ _
      simp only [Act.put]
      go_wp2_with fail
      go_meet
      exact ⟨_, rfl, Mq.out⟩
  case rest =>
    obtain ⟨g13, rfl, mq⟩ := hcut.m
    have Mq := Lib.hid mq.drew
    have HE := Lib.hid (HEQ.out _ g13 (cs - n) Mq.out.bel (Mq.out.rbArr (List.mem_cons_self ..)))
    clear mq hcut HEQ
    go_upto_region 9 with fail
    have j1 : (n : Int) ≤ (n : Int) + 32 := by omega
    have j2 : ¬ cs = n := by omega
    refine wp_region_held_drew (S := fun _ => True) (by kernel_rfl) ?_ (fun hHeld => ?_)
    · trivial
    generalize World.drew _ = w6 at Mq HE hHeld ⊢
    refine wpAnyH_take (i := 0) (v := ?_) rfl (by kernel_rfl) (by kernel_rfl) (by kernel_rfl) (fun _ _ _ h => h) (Or.inl ⟨by rfl, ?_⟩) (by assumption) ?_
    rotate_left
    · intro w hSw; (try dsimp only at hSw); go_split_ands; go_simp; with_reducible rfl
    change wpAnyH _ _ _ _ _ _ _ (Act.put _ (some 32) _) _
    simp only [Act.put, List.setIfInBounds_toArray, List.set_cons_zero, List.set_cons_succ, Array.toArray_toList]
    refine wpAnyH_take (i := 1) (v := ?_) rfl (by kernel_rfl) (by kernel_rfl) (by kernel_rfl) (fun _ _ _ h => h) (Or.inl ⟨by rfl, ?_⟩) (by assumption) ?_
    rotate_left
    · intro w hSw; (try dsimp only at hSw); go_split_ands; go_simp; with_reducible rfl
    change wpAnyH _ _ _ _ _ _ _ (Act.put _ (some 33) _) _
    simp only [Act.put, List.setIfInBounds_toArray, List.set_cons_zero, List.set_cons_succ, Array.toArray_toList]
    refine wpAnyH_take (i := 2) (v := ?_) rfl (by kernel_rfl) (by kernel_rfl) (by kernel_rfl) (fun _ _ _ h => h) (Or.inl ⟨by rfl, ?_⟩) (by assumption) ?_
    rotate_left
    · intro w hSw; (try dsimp only at hSw); go_split_ands; go_simp; with_reducible rfl
    change wpAnyH _ _ _ _ _ _ _ (Act.put _ (some 34) _) _
    simp only [Act.put, List.setIfInBounds_toArray, List.set_cons_zero, List.set_cons_succ, Array.toArray_toList]
    refine wpAnyH_take (i := 3) (v := ?_) rfl (by kernel_rfl) (by kernel_rfl) (by kernel_rfl) (fun _ _ _ h => h) (Or.inl ⟨by rfl, ?_⟩) (by assumption) ?_
    rotate_left
    · intro w hSw; (try dsimp only at hSw); go_split_ands; go_simp; with_reducible rfl
    change wpAnyH _ _ _ _ _ _ _ (Act.put _ (some 35) _) _
    simp only [Act.put, List.setIfInBounds_toArray, List.set_cons_zero, List.set_cons_succ, Array.toArray_toList]
    refine wpAnyH_ready (rs := [4]) (by kernel_rfl) (by simp) ?_
    refine (AllReadyH.cons rfl (fun K hK => ?_) AllReadyH.nil)
    go_simp
    (with_reducible refine HE.out.mono ?_); rintro e wq ⟨rfl, hb⟩; have Mq := Lib.hid (Mq.out.below hb); clear hb
    go_wp2_with fail
    refine hK.out _ _ (by first | assumption | go_keep) (fun hHeld => ?_)
    clear hK K
    refine wpAnyH_take (i := 5) (v := ?_) rfl (by kernel_rfl) (by kernel_rfl) (by kernel_rfl) (fun _ _ _ h => h) (Or.inl ⟨by rfl, ?_⟩) (by assumption) ?_
    rotate_left
    · intro w hSw; (try dsimp only at hSw); go_split_ands; go_simp; with_reducible rfl
    change wpAnyH _ _ _ _ _ _ _ (Act.put _ (some 37) _) _
    simp only [Act.put, List.setIfInBounds_toArray, List.set_cons_zero, List.set_cons_succ, Array.toArray_toList]
    refine wpAnyH_done (by kernel_rfl) ?_ _
    clear j1 j2 HE hHeld
    cases ok with
    | false =>
      go_wp2_with fail
      go_ret2
      exact ⟨none, 0, rfl, Mq.out.bel, .inl rfl⟩
    | true =>
      have Mq := Lib.hid Mq.out.drew
      have k0 := (Mq.out.blk [_]).rangeL
      go_upto_region 11 with fail
      refine wp_region_held_drew (S := fun w' => w'.rangeAt w.heap.size 0 KT.toList) (by kernel_rfl) ?_ (fun hHeld => ?_)
      · exact k0
      generalize World.drew wq = w8 at Mq hHeld ⊢
      refine wpAnyH_take (i := 0) (v := ?_) rfl (by kernel_rfl) (by kernel_rfl) (by kernel_rfl) (fun _ _ _ h => h) (Or.inl ⟨by rfl, ?_⟩) (by assumption) ?_
      rotate_left
      · intro w hSw; (try dsimp only at hSw); go_split_ands; go_simp; with_reducible rfl
      change wpAnyH _ _ _ _ _ _ _ (Act.put _ (some 38) _) _
      simp only [Act.put, List.setIfInBounds_toArray, List.set_cons_zero, List.set_cons_succ, Array.toArray_toList]
      refine wpAnyH_take (i := 1) (v := ?_) rfl (by kernel_rfl) (by kernel_rfl) (by kernel_rfl) (fun _ _ _ h => h) (Or.inl ⟨by rfl, ?_⟩) (by assumption) ?_
      rotate_left
      · intro w hSw; (try dsimp only at hSw); go_split_ands; go_simp; with_reducible rfl
      change wpAnyH _ _ _ _ _ _ _ (Act.put _ (some 39) _) _
      simp only [Act.put, List.setIfInBounds_toArray, List.set_cons_zero, List.set_cons_succ, Array.toArray_toList]
      refine wpAnyH_take (i := 2) (v := ?_) rfl (by kernel_rfl) (by kernel_rfl) (by kernel_rfl) (fun _ _ _ h => h) (Or.inl ⟨by rfl, ?_⟩) (by assumption) ?_
      rotate_left
      · intro w hSw; (try dsimp only at hSw); go_split_ands; go_simp; with_reducible rfl
      change wpAnyH _ _ _ _ _ _ _ (Act.put _ (some 40) _) _
      simp only [Act.put, List.setIfInBounds_toArray, List.set_cons_zero, List.set_cons_succ, Array.toArray_toList]
      refine wpAnyH_take (i := 3) rfl (by kernel_rfl) (by kernel_rfl) (by kernel_rfl) (fun _ _ _ h => h) (yieldsIf_load_mid (by rfl) _ _ rfl _ _ rfl _ _ (fun w hw => hw) hu hd hki) (by assumption) ?_
      change wpAnyH _ _ _ _ _ _ _ (Act.put _ (some 41) _) _
      simp only [Act.put, List.setIfInBounds_toArray, List.set_cons_zero, List.set_cons_succ, Array.toArray_toList]
      refine wpAnyH_take (i := 4) (v := ?_) rfl (by kernel_rfl) (by kernel_rfl) (by kernel_rfl) (fun _ _ _ h => h) (Or.inl ⟨by rfl, ?_⟩) (by assumption) ?_
      rotate_left
      · intro w hSw; (try dsimp only at hSw); go_split_ands; go_simp; with_reducible rfl
      change wpAnyH _ _ _ _ _ _ _ (Act.put _ (some 42) _) _
      simp only [Act.put, List.setIfInBounds_toArray, List.set_cons_zero, List.set_cons_succ, Array.toArray_toList]
      refine wpAnyH_take (i := 5) (v := ?_) rfl (by kernel_rfl) (by kernel_rfl) (by kernel_rfl) (fun _ _ _ h => h) (Or.inl ⟨by rfl, ?_⟩) (by assumption) ?_
      rotate_left
      · intro w hSw; (try dsimp only at hSw); go_split_ands; go_simp; with_reducible rfl
      change wpAnyH _ _ _ _ _ _ _ (Act.put _ (some 43) _) _
      simp only [Act.put, List.setIfInBounds_toArray, List.set_cons_zero, List.set_cons_succ, Array.toArray_toList]
      refine wpAnyH_take (i := 6) (v := ?_) rfl (by kernel_rfl) (by kernel_rfl) (by kernel_rfl) (fun _ _ _ h => h) (Or.inl ⟨by rfl, ?_⟩) (by assumption) ?_
      rotate_left
      · intro w hSw; (try dsimp only at hSw); go_split_ands; go_simp; with_reducible rfl
      change wpAnyH _ _ _ _ _ _ _ (Act.put _ (some 44) _) _
      simp only [Act.put, List.setIfInBounds_toArray, List.set_cons_zero, List.set_cons_succ, Array.toArray_toList]
      refine wpAnyH_ready (rs := [7]) (by kernel_rfl) (by simp) ?_
      refine (AllReadyH.cons rfl (fun K hK => ?_) AllReadyH.nil)
      go_simp
      (with_reducible refine (HS.out _ Mq.out.bel).mono ?_); rintro e wq ⟨A1, c1, rfl, _, _, hb, nb⟩; have Mq := Lib.hid (Mq.out.below hb); have NB := Lib.hid nb.rb; clear hb nb
      go_wp2_with fail
      refine hK.out _ _ (by exact (Mq.out.blk [_]).rangeL) (fun hHeld => ?_)
      clear hK K
      refine wpAnyH_ready (rs := [8]) (by kernel_rfl) (by simp) ?_
      refine (AllReadyH.cons rfl (fun K hK => ?_) AllReadyH.nil)
      go_simp
      (with_reducible refine (HTU.out _ _ _ Mq.out.bel NB.out).mono ?_); rintro e wq ⟨A2, c2, rfl, _, _, hb, nb⟩; have HNB := Lib.hid (nb.base Mq.out.bel.size); have Mq := Lib.hid (Mq.out.below hb); clear hb nb
      go_wp2_with fail
      refine hK.out _ _ (by exact (Mq.out.blk [_]).rangeL) (fun hHeld => ?_)
      clear hK K
      refine wpAnyH_take (i := 9) (v := ?_) rfl (by kernel_rfl) (by kernel_rfl) (by kernel_rfl) (fun _ _ _ h => h) (Or.inl ⟨by rfl, ?_⟩) (by assumption) ?_
      rotate_left
      · intro w hSw; (try dsimp only at hSw); go_split_ands; go_simp; with_reducible rfl
      change wpAnyH _ _ _ _ _ _ _ (Act.put _ (some 10) _) _
      simp only [Act.put, List.setIfInBounds_toArray, List.set_cons_zero, List.set_cons_succ, Array.toArray_toList]
      refine wpAnyH_take (i := 10) (v := ?_) rfl (by kernel_rfl) (by kernel_rfl) (by kernel_rfl) (fun _ _ _ h => h) (Or.inl ⟨by rfl, ?_⟩) (by assumption) ?_
      rotate_left
      · intro w hSw; (try dsimp only at hSw); go_split_ands; go_simp; with_reducible rfl
      change wpAnyH _ _ _ _ _ _ _ (Act.put _ (some 11) _) _
      simp only [Act.put, List.setIfInBounds_toArray, List.set_cons_zero, List.set_cons_succ, Array.toArray_toList]
      refine wpAnyH_done (by kernel_rfl) ?_ _
      go_wp2_with fail
      go_ret2
      exact ⟨A2, c2, by rw [show ((BB, 0) : List UInt8 × Nat).1.length = n from HBBL.out]; rfl, Mq.out.bel, HNB.out⟩
end Go.Proofs.Ytiakgohipnbdbaa
