/-
  vigillaw01.DigestRunning returns true, whatever it is called with. Conditions: none but that the first argument is a slice of slices of bytes that can be read.
-/
import Derived.Test.YthnaobolmgcclaaDig2
import Derived.Test.YthnaobolmgcclaaKn01
namespace Go.Proofs.Ythnaobolmgcclaa
set_option linter.unusedVariables false
set_option linter.unusedSimpArgs false
open Go.RowKit

/-- The copy, if there is one yet. -/
def CpSt (W : World) (xb : Bl) (xr : List Ro) (at_ : Int) (qs : List Pt) (k : Nat) (s9 s11 : Value) (xb' : Bl) (xr' : List Ro) : Prop :=
  (s9 = .pointer none ∧ s11 = .int .i64 0 ∧ xb' = xb ∧ xr' = xr) ∨
  (∃ gc k0 xc hc, s9 = .pointer (some ⟨gc, 0, none⟩) ∧ s11 = .int .i64 ((catP (qs.take k0)).length : Nat) ∧ (k0 : Int) = at_ + 1 ∧ k0 ≤ k ∧ RunAt W gc (some (catP (qs.take k0))) xc hc ∧ xb' = xc :: xb ∧ xr' = hc ++ xr)
def DrR (W wr : World) (g : Nat) (xb : Bl) (xr : List Ro) (at_ : Int) (qs : List Pt) (k : Nat) (s9 s10 s11 : Value) : Prop :=
  ∃ xb' xr' st, told st = catP (qs.take k) ∧ s10 = .int .i64 ((catP (qs.take k)).length : Nat) ∧ CpSt W xb xr at_ qs k s9 s11 xb' xr' ∧ RunX W wr xb' xr' g st
theorem CpSt.sub {W : World} {xb : Bl} {xr : List Ro} {at_ : Int} {qs : List Pt} {k : Nat} {s9 s11 : Value} {xb' : Bl} {xr' : List Ro} (h : CpSt W xb xr at_ qs k s9 s11 xb' xr') : (∀ x ∈ xb, x ∈ xb') ∧ (∀ y ∈ xr, y ∈ xr') := by
  rcases h with ⟨_, _, rfl, rfl⟩ | ⟨_, _, xc, hc, _, _, _, _, _, rfl, rfl⟩
  · exact ⟨fun _ h => h, fun _ h => h⟩
  · exact ⟨fun _ h => List.mem_cons_of_mem _ h, fun _ h => List.mem_append_right _ h⟩
theorem CpSt.succ {W : World} {xb : Bl} {xr : List Ro} {at_ : Int} {qs : List Pt} {k : Nat} {s9 s11 : Value} {xb' : Bl} {xr' : List Ro} (h : CpSt W xb xr at_ qs k s9 s11 xb' xr') : CpSt W xb xr at_ qs (k + 1) s9 s11 xb' xr' := by
  rcases h with h | ⟨gc, k0, xc, hc, h1, h2, h3, h4, h5⟩
  · exact .inl h
  · exact .inr ⟨gc, k0, xc, hc, h1, h2, h3, by omega, h5⟩

theorem Pts.cellAt {w : World} {b o : Nat} {ps : List Pt} (h : Pts w (some ⟨b, o, none⟩) ps) {k : Nat} {p : Pt} (hk : ps[k]? = some p) : w.cell? ⟨b, o + k, none⟩ = some p.v := by
  obtain ⟨b', o', e, _, hc⟩ := h.at_ (by have := (List.getElem?_eq_some_iff.1 hk).1; omega)
  obtain ⟨rfl, rfl⟩ : b = b' ∧ o = o' := by simpa using e
  exact hc k p hk
theorem sAlloc {w : World} {g : Nat} {xs : List Value} {p : Addr} {v : Value} (h : w.rangeAt g 0 xs ∧ w.cell? p = some v) (ob : Obj) : (w.alloc ob).rangeAt g 0 xs ∧ (w.alloc ob).cell? p = some v :=
  ⟨ra_alloc h.1 ob, by rw [World.cell?_alloc_some _ _ _ (by rw [h.2]; rfl)]; exact h.2⟩
theorem sBelow {w w' : World} {g b o : Nat} {xs : List Value} {v : Value} (h : w.rangeAt g 0 xs ∧ w.cell? ⟨b, o, none⟩ = some v) (hb : Below w.heap.size w w') : w'.rangeAt g 0 xs ∧ w'.cell? ⟨b, o, none⟩ = some v :=
  ⟨ra_below h.1 hb, (hb.cell (p := ⟨b, o, none⟩) (block_lt_of_cell h.2)).trans h.2⟩
set_option maxRecDepth 100000 in
set_option maxHeartbeats 4000000 in
theorem digestRunning_main (W : World) (A : Option Addr) (c : Nat) (ps : List Pt) (at_ : Int) (hp : Rd W W.heap.size 1 A ps.length (ps.map Pt.v)) (hc : ∀ p ∈ ps, RB W W.heap.size p.A p.l ∧ p.l.length ≤ p.c ∧ p.c ≤ 9223372036854775807) (hn : ps.length ≤ 9223372036854775807) :
    Calls Try.prog 5 #[.slice A ps.length c, .int .i64 at_] W fun e W' => e = .returned (.bool true) ∧ Below W.heap.size W W' := by
  have HF := Lib.hid (few1_any W A c ps ⟨hp, fun p h => (hc p h).1⟩ (fun p h => (hc p h).2) hn)
  have hq := fewP_old (M := 12) (N := 100) fun p h => (hc p h).1
  have hlen : (fewP 12 100 ps).length ≤ 12 := by rw [fewP_len]; omega
  have hcl : (catP (fewP 12 100 ps)).length ≤ 1200 := by
    have h1 := catP_len_le (N := 100) (ps := fewP 12 100 ps) (fewP_le 12 100 ps)
    omega
  have hqc : ∀ q ∈ fewP 12 100 ps, q.l.length ≤ q.c := by
    intro q hq
    simp only [fewP, List.mem_map] at hq
    obtain ⟨p, hp, rfl⟩ := hq
    have := (hc p (List.mem_of_mem_take hp)).2.1
    show (p.l.take 100).length ≤ p.c
    rw [List.length_take]
    omega
  obtain ⟨qs, hqs⟩ : ∃ q, fewP 12 100 ps = q := ⟨_, rfl⟩
  rw [hqs] at HF hq hlen hcl hqc
  have HQ := Lib.hid hq
  obtain ⟨n, hN⟩ : ∃ n, qs.length = n := ⟨_, rfl⟩
  rw [hN] at HF
  have HN := Lib.hid hN
  rw [hN] at hlen
  clear hp hc hn hq hqs hN hqc
  obtain ⟨KT, HMK, HRS, hKi, hKs, hKo⟩ := ref_sum2
  have HKI := Lib.hid hKi
  have HKS := Lib.hid hKs
  have HKO := Lib.hid hKo
  clear hKs hKo
  go_enter Try.func5, Try.ntmps5
  go_wp2_with fail
  refine HF.out.mono ?_
  rintro e w1 ⟨v1, v2, rfl, hfe⟩
  obtain ⟨A1, c1, A2, c2, ow, rfl, rfl, m1, hS1, hS2⟩ := fe_open HN.out hfe HQ.out
  obtain ⟨T, hT⟩ : ∃ T, catP qs = T := ⟨_, rfl⟩
  rw [hT] at hS2 hcl ⊢
  have hc2 : T.length ≤ c2 := by
    have := hfe.m.row [_]
    rw [List.take_of_length_le (by rw [HN.out]; exact Nat.le_refl _), hT] at this
    obtain ⟨_, _, e, _, _, h, _⟩ := own_form this
    injection e with _ _ e
    omega
  have H1 := Lib.hid hS1
  have H2 := Lib.hid hS2
  have HT := Lib.hid hT
  have M1 := Lib.hid m1
  clear hfe m1 hS1 hS2 hT HF
  go_wp2_with fail
  refine (HMK w1).mono ?_
  rintro e w2 ⟨rfl, hb2⟩
  have m3 := (M1.out.below hb2).new 60 Z72
  have B3 := Lib.hid (m3.blk [])
  have m4 := Mst.setRow (bl := []) [] m3 KT
  have m5 := m4.new 67 Z67
  rw [show ((w2.alloc (.cells Z72 60)).setRow w2.heap.size KT).heap.size = w2.heap.size + 1 by simp [World.setRow]] at m5
  have R5 := Lib.hid (show RunX W _ [(w2.heap.size, 60, KT)] ow (w2.heap.size + 1) none from ⟨_, [], ⟨none, 0, by rw [← Z67_eq], Src.nil_ _ _ _ _ _, Nat.le_refl _, by decide⟩, m5⟩)
  clear hb2 m3 m4 m5
  go_wp2_with (first | refine wpList_store_row rfl _ _ _ rfl w2.heap.size KT rfl rfl 60 _ B3.out HKI.out HKS.out HKO.out ?_)
  clear B3
  obtain ⟨g7, hg7⟩ : ∃ g, w2.heap.size = g := ⟨_, rfl⟩
  rw [hg7] at R5 ⊢
  go_loopg [12, 9, 10, 11] n (fun gk s12 s9 s10 s11 wr => ∃ k : Nat, k + gk = n ∧ s12 = .int .i64 k ∧ DrR W wr (g7 + 1) [(g7, 60, KT)] ow at_ qs k s9 s10 s11)
  case atStart => exact ⟨0, by omega, rfl, _, _, none, by simp [told, catP], by simp [catP], .inl ⟨rfl, rfl, rfl, rfl⟩, R5.out⟩
  case round =>
    obtain ⟨k, hk, rfl, xb, xr, st, hst, rfl, hcp, hR⟩ := hrel
    have R6 := Lib.hid hR
    have HCP := Lib.hid hcp
    have HST := Lib.hid hst
    clear hR hst
    by_cases hlt : k < n
    · obtain ⟨p, hpk⟩ : ∃ p, qs[k]? = some p := ⟨_, List.getElem?_eq_getElem (by have := HN.out; omega)⟩
      obtain ⟨hsub1, hsub2⟩ := hcp.sub
      have HSP := Lib.hid (H1.out.sub (fun x hx => hsub1 x (by cases hx)) hsub2)
      have hrp : Pts wr A1 qs := ⟨R6.out.src HSP.out.1, fun p hp => R6.out.src (HSP.out.2 p hp)⟩
      obtain ⟨b, o, rfl, hb, hcell⟩ := hrp.at_ (by have := HN.out; omega)
      have c0 := hcell k p hpk
      have HPL := Lib.hid (HSP.out.2 p (List.mem_of_getElem? hpk))
      have e1 := catP_take hpk
      obtain ⟨pA, pc, pl⟩ := p
      unfold Pt.v at c0
      simp only at c0 HPL e1
      obtain ⟨S, hS⟩ : ∃ S, (catP (qs.take k)).length = S := ⟨_, rfl⟩
      obtain ⟨L, hL⟩ : ∃ L, pl.length = L := ⟨_, rfl⟩
      have hSL : S + L ≤ T.length := by
        have h1 := catP_le qs (k + 1)
        rw [e1, List.length_append, hS, hL, HT.out] at h1
        exact h1
      have HS := Lib.hid hS
      have HL := Lib.hid hL
      have HE1 := Lib.hid e1
      rw [hL] at c0
      rw [hS]
      have i1 : (k : Int) < n := by omega
      have i2 : (0 : Int) ≤ k := by omega
      have HK := Lib.hid (show ∀ w' st2, RunX W w' xb xr (g7 + 1) st2 → (w'.rangeAt g7 0 KT.toList ∧ w'.cell? ⟨b, o + k, none⟩ = some (.slice pA L pc)) from fun w' st2 h =>
        ⟨(h.bk (hsub1 _ (List.mem_singleton_self _))).rangeL, by
          have hrp2 : Pts w' (some ⟨b, o, none⟩) qs := ⟨h.src HSP.out.1, fun p hp => h.src (HSP.out.2 p hp)⟩
          have := hrp2.cellAt hpk
          unfold Pt.v at this
          rw [hL] at this
          exact this⟩)
      obtain ⟨T1, hT1⟩ : ∃ T1, catP (qs.take (k + 1)) = T1 := ⟨_, rfl⟩
      have hT1l : T1.length = S + L := by rw [← hT1, e1, List.length_append, hS, hL]
      obtain ⟨K, hK⟩ : ∃ K, sha T1 = K := ⟨_, rfl⟩
      have hKl : K.length = 32 := by rw [← hK]; rfl
      have HADD := Lib.hid (show Calls Try.prog 36 #[.pointer (some ⟨g7 + 1, 0, none⟩), .slice (some ⟨wr.drew.heap.size, 0, none⟩) 1 1] (wr.drew.alloc (.cells #[.slice pA L pc] 26)) fun e w' => e = .returned (.pointer (some ⟨g7 + 1, 0, none⟩)) ∧ RunX W w' xb xr (g7 + 1) (some T1) from by
        have h1 := (R6.out.below (Below.refl _ _).drew).one HPL.out pc
        have h2 := add_any W _ xb _ (g7 + 1) st h1.1 _ 1 _ h1.2 (by simp) (by rw [HST.out, hS]; simp [catP]; omega)
        rw [HST.out, show catP [⟨pA, pc, pl⟩] = pl by simp [catP], ← e1, hT1, hL] at h2
        exact h2.mono fun e w' ⟨h3, h4⟩ => ⟨h3, h4.subr⟩)
      have HSUM := Lib.hid (show ∀ w', RunX W w' xb xr (g7 + 1) (some T1) → Calls Try.prog 37 #[.pointer (some ⟨g7 + 1, 0, none⟩)] w' fun e w2 => e = .returned (.agg (b8a K)) ∧ RunX W w2 xb xr (g7 + 1) (some T1) from fun w' h => by
        have := h.sum (by show T1.length ≤ _; omega)
        rw [show told (some T1) = T1 from rfl, hK] at this
        exact this)
      have HREF := Lib.hid (show ∀ w', RunX W w' xb xr (g7 + 1) (some T1) → Calls Try.prog 32 #[.agg KT, .slice A2 ((S : Int) + L).toNat c2] w' fun e w2 => e = .returned (.agg (b8a K)) ∧ Below w'.heap.size w' w2 from fun w' h => by
        have hr : RB w' w'.heap.size A2 T := h.src (H2.out.sub (fun x hx => hsub1 x (by cases hx)) hsub2)
        have hr2 := hr.cut (S + L)
        have e3 : T.take (S + L) = T1 := by rw [← hT1l, ← hT1, ← HT.out]; exact catP_pre qs (k + 1)
        rw [e3] at hr2
        have := HRS w' A2 c2 T1 hr2 (by omega)
        rw [hT1l, hK] at this
        rw [show ((S : Int) + L).toNat = S + L by omega]
        exact this)
      have HLEN := Lib.hid (show ∀ w', RunX W w' xb xr (g7 + 1) (some T1) → Calls Try.prog 38 #[.pointer (some ⟨g7 + 1, 0, none⟩)] w' fun e w2 => e = .returned (.int .i64 ((S : Int) + L)) ∧ w2 = w' from fun w' h => by
        have := h.len
        rw [show ((told (some T1)).length : Int) = (S : Int) + L by rw [show told (some T1) = T1 from rfl, hT1l]; omega] at this
        exact this)
      have HT1 := Lib.hid hT1
      have HT1L := Lib.hid hT1l
      have NE := ne32 K K hKl hKl
      rw [beq_self_eq_true] at NE
      have NR := neR ⟨g7 + 1, 0, none⟩
      have hu : ∃ d, Try.prog.underlying 60 = some d ∧ d.isRow = true := ⟨_, Try.underlying60, rfl⟩
      obtain ⟨d, hu, hd⟩ := hu
      have hki : (Try.prog.info? 60).map (·.size) = some KT.toList.length := by rw [Array.length_toList]; exact HKI.out
      have k0 := HK.out wr.drew st (R6.out.below (Below.refl _ _).drew)
      have i3 : (0 : Int) ≤ S := by omega
      have i4 : (0 : Int) ≤ L := by omega
      have i8 : (0 : Int) ≤ (S : Int) + L := by omega
      have i5 : (S : Int) + L ≤ T.length := by omega
      have i6 : (S : Int) + L ≤ c2 := by omega
      have i7 : (S : Int) + L ≤ 1200 := by omega
      clear hcp hsub1 hsub2 hrp hcell hpk e1 hS hL hT1 hT1l hK hKl
      go_wp2_with fail
      refine wp_region_held_drew (S := fun w' => w'.rangeAt g7 0 KT.toList ∧ w'.cell? ⟨b, o + k, none⟩ = some (.slice pA L pc)) (by kernel_rfl) ?_ (fun hHeld => ?_)
      · exact k0
      refine wpAnyH_take (i := 0) (v := ?_) rfl (by kernel_rfl) (by kernel_rfl) (by kernel_rfl) (fun _ _ _ h => h) (Or.inl ⟨by rfl, ?_⟩) (by assumption) ?_
      rotate_left
      · intro w hSw; (try dsimp only at hSw); go_split_ands; go_simp; with_reducible rfl
      change wpAnyH _ _ _ _ _ _ _ (Act.put _ (some 33) _) _
      simp only [Act.put, List.setIfInBounds_toArray, List.set_cons_zero, List.set_cons_succ, Array.toArray_toList]
      refine wpAnyH_take (i := 1) (v := ?_) rfl (by kernel_rfl) (by kernel_rfl) (by kernel_rfl) (fun _ _ _ h => h) (Or.inl ⟨by rfl, ?_⟩) (by assumption) ?_
      rotate_left
      · intro w hSw; (try dsimp only at hSw); go_split_ands; go_simp; with_reducible rfl
      change wpAnyH _ _ _ _ _ _ _ (Act.put _ (some 34) _) _
      simp only [Act.put, List.setIfInBounds_toArray, List.set_cons_zero, List.set_cons_succ, Array.toArray_toList]
      refine wpAnyH_take (i := 2) (v := ?_) rfl (by kernel_rfl) (by kernel_rfl) (by kernel_rfl) (fun _ _ _ h => h) (Or.inl ⟨by rfl, ?_⟩) (by assumption) ?_
      rotate_left
      · intro w hSw; (try dsimp only at hSw); go_split_ands; go_simp; with_reducible rfl
      change wpAnyH _ _ _ _ _ _ _ (Act.put _ (some 35) _) _
      simp only [Act.put, List.setIfInBounds_toArray, List.set_cons_zero, List.set_cons_succ, Array.toArray_toList]
      refine wpAnyH_take (i := 3) (v := ?_) rfl (by kernel_rfl) (by kernel_rfl) (by kernel_rfl) (fun _ _ _ h => h) (Or.inl ⟨by rfl, ?_⟩) (by assumption) ?_
      rotate_left
      · intro w hSw; (try dsimp only at hSw); go_split_ands; go_simp; with_reducible rfl
      change wpAnyH _ _ _ _ _ _ _ (Act.put _ (some 36) _) _
      simp only [Act.put, List.setIfInBounds_toArray, List.set_cons_zero, List.set_cons_succ, Array.toArray_toList]
      refine wpAnyH_ready (rs := [4]) (by kernel_rfl) (by simp) ?_
      refine (AllReadyH.cons rfl (fun K hK => ?_) AllReadyH.nil)
      go_simp
      refine hK.out _ _ (by first | assumption | exact sAlloc (by assumption) _) (fun hHeld => ?_)
      clear hK K
      refine wpAnyH_ready (rs := [5]) (by kernel_rfl) (by simp) ?_
      refine (AllReadyH.cons rfl (fun K hK => ?_) AllReadyH.nil)
      go_simp
      refine HADD.out.mono ?_; rintro e w7 ⟨rfl, r7⟩; have k7 := HK.out _ _ r7; have R7 := Lib.hid r7; clear r7
      go_wp2_with fail
      refine hK.out _ _ (by first | assumption | exact sAlloc (by assumption) _) (fun hHeld => ?_)
      clear hK K
      refine wpAnyH_take (i := 6) (v := ?_) rfl (by kernel_rfl) (by kernel_rfl) (by kernel_rfl) (fun _ _ _ h => h) (Or.inl ⟨by rfl, ?_⟩) (by assumption) ?_
      rotate_left
      · intro w hSw; (try dsimp only at hSw); go_split_ands; go_simp; with_reducible rfl
      change wpAnyH _ _ _ _ _ _ _ (Act.put _ (some 39) _) _
      simp only [Act.put, List.setIfInBounds_toArray, List.set_cons_zero, List.set_cons_succ, Array.toArray_toList]
      refine wpAnyH_take (i := 7) (v := ?_) rfl (by kernel_rfl) (by kernel_rfl) (by kernel_rfl) (fun _ _ _ h => h) (Or.inl ⟨by rfl, ?_⟩) (by assumption) ?_
      rotate_left
      · intro w hSw; (try dsimp only at hSw); go_split_ands; go_simp; with_reducible rfl
      change wpAnyH _ _ _ _ _ _ _ (Act.put _ (some 40) _) _
      simp only [Act.put, List.setIfInBounds_toArray, List.set_cons_zero, List.set_cons_succ, Array.toArray_toList]
      refine wpAnyH_take (i := 9) rfl (by kernel_rfl) (by kernel_rfl) (by kernel_rfl) (fun _ _ _ h => h) (yieldsIf_load_mid (by rfl) _ _ rfl _ _ rfl _ _ (fun w hw => hw.1) hu hd hki) (by assumption) ?_
      change wpAnyH _ _ _ _ _ _ _ (Act.put _ (some 42) _) _
      simp only [Act.put, List.setIfInBounds_toArray, List.set_cons_zero, List.set_cons_succ, Array.toArray_toList]
      refine wpAnyH_take (i := 10) (v := ?_) rfl (by kernel_rfl) (by kernel_rfl) (by kernel_rfl) (fun _ _ _ h => h) (Or.inl ⟨by rfl, ?_⟩) (by assumption) ?_
      rotate_left
      · intro w hSw; (try dsimp only at hSw); go_split_ands; go_simp; with_reducible rfl
      change wpAnyH _ _ _ _ _ _ _ (Act.put _ (some 43) _) _
      simp only [Act.put, List.setIfInBounds_toArray, List.set_cons_zero, List.set_cons_succ, Array.toArray_toList]
      refine wpAnyH_take (i := 11) (v := ?_) rfl (by kernel_rfl) (by kernel_rfl) (by kernel_rfl) (fun _ _ _ h => h) (Or.inl ⟨by rfl, ?_⟩) (by assumption) ?_
      rotate_left
      · intro w hSw; (try dsimp only at hSw); go_split_ands; go_simp; with_reducible rfl
      change wpAnyH _ _ _ _ _ _ _ (Act.put _ (some 44) _) _
      simp only [Act.put, List.setIfInBounds_toArray, List.set_cons_zero, List.set_cons_succ, Array.toArray_toList]
      refine wpAnyH_take (i := 12) (v := ?_) rfl (by kernel_rfl) (by kernel_rfl) (by kernel_rfl) (fun _ _ _ h => h) (Or.inl ⟨by rfl, ?_⟩) (by assumption) ?_
      rotate_left
      · intro w hSw; (try dsimp only at hSw); go_split_ands; go_simp; with_reducible rfl
      change wpAnyH _ _ _ _ _ _ _ (Act.put _ (some 45) _) _
      simp only [Act.put, List.setIfInBounds_toArray, List.set_cons_zero, List.set_cons_succ, Array.toArray_toList]
      refine wpAnyH_ready (rs := [8]) (by kernel_rfl) (by simp) ?_
      refine (AllReadyH.cons rfl (fun K hK => ?_) AllReadyH.nil)
      go_simp
      refine (HSUM.out _ R7.out).mono ?_; rintro e w8 ⟨rfl, r8⟩; have k8 := HK.out _ _ r8; have R8 := Lib.hid r8; clear r8
      go_wp2_with fail
      refine hK.out _ _ (by first | assumption | exact sAlloc (by assumption) _) (fun hHeld => ?_)
      clear hK K
      refine wpAnyH_ready (rs := [13]) (by kernel_rfl) (by simp) ?_
      refine (AllReadyH.cons rfl (fun K hK => ?_) AllReadyH.nil)
      go_simp
      with_reducible refine (HREF.out _ R8.out).mono ?_; rintro e w9 ⟨rfl, hb9⟩; have k9 := sBelow k8 hb9; have R9 := Lib.hid (R8.out.below hb9); clear hb9
      go_wp2_with fail
      refine hK.out _ _ (by first | assumption | exact sAlloc (by assumption) _) (fun hHeld => ?_)
      clear hK K
      refine wpAnyH_take (i := 14) (v := ?_) rfl (by kernel_rfl) (by kernel_rfl) (by kernel_rfl) (fun _ _ _ h => h) (Or.inl ⟨by rfl, ?_⟩) (by assumption) ?_
      rotate_left
      · intro w hSw; (try dsimp only at hSw); go_split_ands; go_simp; with_reducible rfl
      change wpAnyH _ _ _ _ _ _ _ (Act.put _ (some 47) _) _
      simp only [Act.put, List.setIfInBounds_toArray, List.set_cons_zero, List.set_cons_succ, Array.toArray_toList]
      refine wpAnyH_take (i := 15) (v := ?_) rfl (by kernel_rfl) (by kernel_rfl) (by kernel_rfl) (fun _ _ _ h => h) (Or.inl ⟨by rfl, ?_⟩) (by assumption) ?_
      rotate_left
      · intro w hSw; (try dsimp only at hSw); go_split_ands; go_simp; with_reducible rfl
      change wpAnyH _ _ _ _ _ _ _ (Act.put _ (some 48) _) _
      simp only [Act.put, List.setIfInBounds_toArray, List.set_cons_zero, List.set_cons_succ, Array.toArray_toList]
      refine wpAnyH_take (i := 16) (v := ?_) rfl (by kernel_rfl) (by kernel_rfl) (by kernel_rfl) (fun _ _ _ h => h) (Or.inl ⟨by rfl, ?_⟩) (by assumption) ?_
      rotate_left
      · intro w hSw; (try dsimp only at hSw); go_split_ands; go_simp; with_reducible rfl
      change wpAnyH _ _ _ _ _ _ _ (Act.put _ (some 49) _) _
      simp only [Act.put, List.setIfInBounds_toArray, List.set_cons_zero, List.set_cons_succ, Array.toArray_toList]
      refine wpAnyH_take (i := 18) (v := ?_) rfl (by kernel_rfl) (by kernel_rfl) (by kernel_rfl) (fun _ _ _ h => h) (Or.inl ⟨by rfl, ?_⟩) (by assumption) ?_
      rotate_left
      · intro w hSw; (try dsimp only at hSw); go_split_ands; go_simp; with_reducible rfl
      change wpAnyH _ _ _ _ _ _ _ (Act.put _ (some 51) _) _
      simp only [Act.put, List.setIfInBounds_toArray, List.set_cons_zero, List.set_cons_succ, Array.toArray_toList]
      refine wpAnyH_ready (rs := [17]) (by kernel_rfl) (by simp) ?_
      refine (AllReadyH.cons rfl (fun K hK => ?_) AllReadyH.nil)
      go_simp
      refine (HLEN.out _ R9.out).mono ?_; rintro e w10 ⟨rfl, rfl⟩
      go_wp2_with fail
      refine hK.out _ _ (by first | assumption | exact sAlloc (by assumption) _) (fun hHeld => ?_)
      clear hK K
      refine wpAnyH_take (i := 19) (v := ?_) rfl (by kernel_rfl) (by kernel_rfl) (by kernel_rfl) (fun _ _ _ h => h) (Or.inl ⟨by rfl, ?_⟩) (by assumption) ?_
      rotate_left
      · intro w hSw; (try dsimp only at hSw); go_split_ands; go_simp; with_reducible rfl
      change wpAnyH _ _ _ _ _ _ _ (Act.put _ (some 52) _) _
      simp only [Act.put, List.setIfInBounds_toArray, List.set_cons_zero, List.set_cons_succ, Array.toArray_toList]
      refine wpAnyH_take (i := 20) (v := ?_) rfl (by kernel_rfl) (by kernel_rfl) (by kernel_rfl) (fun _ _ _ h => h) (Or.inl ⟨by rfl, ?_⟩) (by assumption) ?_
      rotate_left
      · intro w hSw; (try dsimp only at hSw); go_split_ands; go_simp; with_reducible rfl
      change wpAnyH _ _ _ _ _ _ _ (Act.put _ (some 53) _) _
      simp only [Act.put, List.setIfInBounds_toArray, List.set_cons_zero, List.set_cons_succ, Array.toArray_toList]
      refine wpAnyH_done (by kernel_rfl) ?_ _
      have HCP2 := Lib.hid HCP.out.succ
      have R10 := Lib.hid R9.out
      clear HADD HSUM HREF HLEN HK NE NR k0 k7 k8 k9 R7 R8 R9 R6 HPL HSP hHeld hki hu hd
      by_cases hat : (k : Int) = at_
      · have hq : ((k : Int) == at_) = true := by simpa using hat
        obtain ⟨rfl, rfl, rfl, rfl⟩ : u9 = .pointer none ∧ u11 = .int .i64 0 ∧ xb = [(g7, 60, KT)] ∧ xr = ow := by
          rcases HCP.out with h | ⟨gc, k0, xc, hc, _, _, h3, h4, _⟩
          · exact h
          · exfalso; omega
        have HCPY := Lib.hid (show Calls Try.prog 39 #[.pointer (some ⟨g7 + 1, 0, none⟩)] w10 fun e w' => ∃ gc xc hc, e = .returned (.pointer (some ⟨gc, 0, none⟩)) ∧ RunAt W gc (some T1) xc hc ∧ RunX W w' (xc :: [(g7, 60, KT)]) (hc ++ xr) (g7 + 1) (some T1) from R10.out.copy (by show T1.length ≤ _; have := HT1L.out; omega))
        have HAT := Lib.hid hat
        clear hat
        go_wp2_with fail
        with_reducible refine HCPY.out.mono ?_
        rintro e w11 ⟨gc, xc, hc, rfl, hRc, r11⟩
        have R11 := Lib.hid r11
        have HRC := Lib.hid hRc
        clear r11 hRc
        go_wp2_with fail
        go_roundg (n - (k + 1))
        case measure => exact meas hk hlt
        case rel => exact ⟨k + 1, meas2 hlt, by go_num, _, _, some T1, HT1.out.symm, by rw [HT1.out, HT1L.out]; go_num, .inr ⟨gc, k + 1, xc, hc, rfl, by rw [HT1.out, HT1L.out]; go_num, by have := HAT.out; omega, Nat.le_refl _, by rw [HT1.out]; exact HRC.out, rfl, rfl⟩, R11.out⟩
      · have hq : ((k : Int) == at_) = false := by simpa using hat
        clear hat
        go_wp2_with fail
        go_roundg (n - (k + 1))
        case measure => exact meas hk hlt
        case rel => exact ⟨k + 1, meas2 hlt, by go_num, _, _, some T1, HT1.out.symm, by rw [HT1.out, HT1L.out]; go_num, HCP2.out, R10.out⟩
    · obtain rfl : k = n := by omega
      have htk : qs.take k = qs := List.take_of_length_le (by have := HN.out; omega)
      have HST2 := Lib.hid (show told st = T by rw [HST.out, htk, HT.out])
      have HTK := Lib.hid htk
      have hu : ∃ d, Try.prog.underlying 60 = some d ∧ d.isRow = true := ⟨_, Try.underlying60, rfl⟩
      obtain ⟨d, hu, hd⟩ := hu
      have hki : (Try.prog.info? 60).map (·.size) = some KT.toList.length := by rw [Array.length_toList]; exact HKI.out
      obtain ⟨hsub1, hsub2⟩ := hcp.sub
      have HK := Lib.hid (show ∀ w' st2, RunX W w' xb xr (g7 + 1) st2 → w'.rangeAt g7 0 KT.toList from fun w' st2 h =>
        (h.bk (hsub1 _ (List.mem_singleton_self _))).rangeL)
      obtain ⟨K, hK⟩ : ∃ K, sha [] = K := ⟨_, rfl⟩
      have hKl : K.length = 32 := by rw [← hK]; rfl
      have NE := ne32 K K hKl hKl
      rw [beq_self_eq_true] at NE
      have HSN := Lib.hid (fun w => rsum_nil w)
      rw [hK] at HSN
      have HRN := Lib.hid (show ∀ w', Calls Try.prog 32 #[.agg KT, .slice none 0 0] w' fun e w2 => e = .returned (.agg (b8a K)) ∧ Below w'.heap.size w' w2 from fun w' => by
        have := HRS w' none 0 [] (Rd.nil_ _ _ _ _) (by simp)
        rw [hK] at this
        exact this)
      have k0 := HK.out wr.drew st (R6.out.below (Below.refl _ _).drew)
      have R7 := Lib.hid (R6.out.below (Below.refl _ _).drew)
      have HCC := Lib.hid hcp
      clear hK hKl htk hsub1 hsub2 hcp HCP
      go_wp2_with fail
      refine wp_region_held_drew (S := fun w' => w'.rangeAt g7 0 KT.toList) (by kernel_rfl) ?_ (fun hHeld => ?_)
      · exact k0
      refine wpAnyH_take (i := 0) (v := ?_) rfl (by kernel_rfl) (by kernel_rfl) (by kernel_rfl) (fun _ _ _ h => h) (Or.inl ⟨by rfl, ?_⟩) (by assumption) ?_
      rotate_left
      · intro w hSw; (try dsimp only at hSw); go_split_ands; go_simp; with_reducible rfl
      change wpAnyH _ _ _ _ _ _ _ (Act.put _ (some 59) _) _
      simp only [Act.put, List.setIfInBounds_toArray, List.set_cons_zero, List.set_cons_succ, Array.toArray_toList]
      refine wpAnyH_take (i := 1) (v := ?_) rfl (by kernel_rfl) (by kernel_rfl) (by kernel_rfl) (fun _ _ _ h => h) (Or.inl ⟨by rfl, ?_⟩) (by assumption) ?_
      rotate_left
      · intro w hSw; (try dsimp only at hSw); go_split_ands; go_simp; with_reducible rfl
      change wpAnyH _ _ _ _ _ _ _ (Act.put _ (some 60) _) _
      simp only [Act.put, List.setIfInBounds_toArray, List.set_cons_zero, List.set_cons_succ, Array.toArray_toList]
      refine wpAnyH_ready (rs := [2]) (by kernel_rfl) (by simp) ?_
      refine (AllReadyH.cons rfl (fun K hK => ?_) AllReadyH.nil)
      go_simp
      refine hK.out _ _ (by first | assumption | exact ra_alloc (by assumption) _) (fun hHeld => ?_)
      clear hK K
      refine wpAnyH_ready (rs := [3]) (by kernel_rfl) (by simp) ?_
      refine (AllReadyH.cons rfl (fun K hK => ?_) AllReadyH.nil)
      go_simp
      (with_reducible refine (add_nil _ _).mono ?_); rintro e w7 ⟨rfl, rfl⟩; have R8 := Lib.hid (show RunX W (wr.drew.alloc (.cells #[.slice A2 T.length c2] 26)) xb xr (g7 + 1) st from R7.out.below ((Below.refl _ _).alloc (Nat.le_refl _) _))
      go_wp2_with fail
      refine hK.out _ _ (by first | assumption | exact ra_alloc (by assumption) _) (fun hHeld => ?_)
      clear hK K
      refine wpAnyH_take (i := 4) (v := ?_) rfl (by kernel_rfl) (by kernel_rfl) (by kernel_rfl) (fun _ _ _ h => h) (Or.inl ⟨by rfl, ?_⟩) (by assumption) ?_
      rotate_left
      · intro w hSw; (try dsimp only at hSw); go_split_ands; go_simp; with_reducible rfl
      change wpAnyH _ _ _ _ _ _ _ (Act.put _ (some 63) _) _
      simp only [Act.put, List.setIfInBounds_toArray, List.set_cons_zero, List.set_cons_succ, Array.toArray_toList]
      refine wpAnyH_take (i := 5) (v := ?_) rfl (by kernel_rfl) (by kernel_rfl) (by kernel_rfl) (fun _ _ _ h => h) (Or.inl ⟨by rfl, ?_⟩) (by assumption) ?_
      rotate_left
      · intro w hSw; (try dsimp only at hSw); go_split_ands; go_simp; with_reducible rfl
      change wpAnyH _ _ _ _ _ _ _ (Act.put _ (some 64) _) _
      simp only [Act.put, List.setIfInBounds_toArray, List.set_cons_zero, List.set_cons_succ, Array.toArray_toList]
      refine wpAnyH_take (i := 6) (v := ?_) rfl (by kernel_rfl) (by kernel_rfl) (by kernel_rfl) (fun _ _ _ h => h) (Or.inl ⟨by rfl, ?_⟩) (by assumption) ?_
      rotate_left
      · intro w hSw; (try dsimp only at hSw); go_split_ands; go_simp; with_reducible rfl
      change wpAnyH _ _ _ _ _ _ _ (Act.put _ (some 65) _) _
      simp only [Act.put, List.setIfInBounds_toArray, List.set_cons_zero, List.set_cons_succ, Array.toArray_toList]
      refine wpAnyH_take (i := 8) rfl (by kernel_rfl) (by kernel_rfl) (by kernel_rfl) (fun _ _ _ h => h) (yieldsIf_load_mid (by rfl) _ _ rfl _ _ rfl _ _ (fun w hw => hw) hu hd hki) (by assumption) ?_
      change wpAnyH _ _ _ _ _ _ _ (Act.put _ (some 67) _) _
      simp only [Act.put, List.setIfInBounds_toArray, List.set_cons_zero, List.set_cons_succ, Array.toArray_toList]
      refine wpAnyH_ready (rs := [7]) (by kernel_rfl) (by simp) ?_
      refine (AllReadyH.cons rfl (fun K hK => ?_) AllReadyH.nil)
      go_simp
      (with_reducible refine (HSN.out _).mono ?_); rintro e w8 ⟨rfl, hb8⟩; have R9 := Lib.hid (R8.out.below hb8); have k8 := HK.out _ _ R9.out; clear hb8
      go_wp2_with fail
      refine hK.out _ _ (by first | assumption | exact ra_alloc (by assumption) _) (fun hHeld => ?_)
      clear hK K
      refine wpAnyH_ready (rs := [9]) (by kernel_rfl) (by simp) ?_
      refine (AllReadyH.cons rfl (fun K hK => ?_) AllReadyH.nil)
      go_simp
      (with_reducible refine (HRN.out _).mono ?_); rintro e w9 ⟨rfl, hb9⟩; have R10 := Lib.hid (R9.out.below hb9); have k9 := HK.out _ _ R10.out; clear hb9
      go_wp2_with fail
      refine hK.out _ _ (by first | assumption | exact ra_alloc (by assumption) _) (fun hHeld => ?_)
      clear hK K
      refine wpAnyH_take (i := 10) (v := ?_) rfl (by kernel_rfl) (by kernel_rfl) (by kernel_rfl) (fun _ _ _ h => h) (Or.inl ⟨by rfl, ?_⟩) (by assumption) ?_
      rotate_left
      · intro w hSw; (try dsimp only at hSw); go_split_ands; go_simp; with_reducible rfl
      change wpAnyH _ _ _ _ _ _ _ (Act.put _ (some 69) _) _
      simp only [Act.put, List.setIfInBounds_toArray, List.set_cons_zero, List.set_cons_succ, Array.toArray_toList]
      refine wpAnyH_take (i := 11) (v := ?_) rfl (by kernel_rfl) (by kernel_rfl) (by kernel_rfl) (fun _ _ _ h => h) (Or.inl ⟨by rfl, ?_⟩) (by assumption) ?_
      rotate_left
      · intro w hSw; (try dsimp only at hSw); go_split_ands; go_simp; with_reducible rfl
      change wpAnyH _ _ _ _ _ _ _ (Act.put _ (some 70) _) _
      simp only [Act.put, List.setIfInBounds_toArray, List.set_cons_zero, List.set_cons_succ, Array.toArray_toList]
      refine wpAnyH_take (i := 12) (v := ?_) rfl (by kernel_rfl) (by kernel_rfl) (by kernel_rfl) (fun _ _ _ h => h) (Or.inl ⟨by rfl, ?_⟩) (by assumption) ?_
      rotate_left
      · intro w hSw; (try dsimp only at hSw); go_split_ands; go_simp; with_reducible rfl
      change wpAnyH _ _ _ _ _ _ _ (Act.put _ (some 71) _) _
      simp only [Act.put, List.setIfInBounds_toArray, List.set_cons_zero, List.set_cons_succ, Array.toArray_toList]
      refine wpAnyH_take (i := 13) (v := ?_) rfl (by kernel_rfl) (by kernel_rfl) (by kernel_rfl) (fun _ _ _ h => h) (Or.inl ⟨by rfl, ?_⟩) (by assumption) ?_
      rotate_left
      · intro w hSw; (try dsimp only at hSw); go_split_ands; go_simp; with_reducible rfl
      change wpAnyH _ _ _ _ _ _ _ (Act.put _ (some 72) _) _
      simp only [Act.put, List.setIfInBounds_toArray, List.set_cons_zero, List.set_cons_succ, Array.toArray_toList]
      refine wpAnyH_ready (rs := [14]) (by kernel_rfl) (by simp) ?_
      refine (AllReadyH.cons rfl (fun K hK => ?_) AllReadyH.nil)
      go_simp
      (with_reducible refine (rlen_nil _).mono ?_); rintro e w10 ⟨rfl, rfl⟩
      go_wp2_with fail
      refine hK.out _ _ (by first | assumption | exact ra_alloc (by assumption) _) (fun hHeld => ?_)
      clear hK K
      refine wpAnyH_take (i := 15) (v := ?_) rfl (by kernel_rfl) (by kernel_rfl) (by kernel_rfl) (fun _ _ _ h => h) (Or.inl ⟨by rfl, ?_⟩) (by assumption) ?_
      rotate_left
      · intro w hSw; (try dsimp only at hSw); go_split_ands; go_simp; with_reducible rfl
      change wpAnyH _ _ _ _ _ _ _ (Act.put _ (some 74) _) _
      simp only [Act.put, List.setIfInBounds_toArray, List.set_cons_zero, List.set_cons_succ, Array.toArray_toList]
      refine wpAnyH_take (i := 16) (v := ?_) rfl (by kernel_rfl) (by kernel_rfl) (by kernel_rfl) (fun _ _ _ h => h) (Or.inl ⟨by rfl, ?_⟩) (by assumption) ?_
      rotate_left
      · intro w hSw; (try dsimp only at hSw); go_split_ands; go_simp; with_reducible rfl
      change wpAnyH _ _ _ _ _ _ _ (Act.put _ (some 75) _) _
      simp only [Act.put, List.setIfInBounds_toArray, List.set_cons_zero, List.set_cons_succ, Array.toArray_toList]
      refine wpAnyH_take (i := 17) (v := ?_) rfl (by kernel_rfl) (by kernel_rfl) (by kernel_rfl) (fun _ _ _ h => h) (Or.inl ⟨by rfl, ?_⟩) (by assumption) ?_
      rotate_left
      · intro w hSw; (try dsimp only at hSw); go_split_ands; go_simp; with_reducible rfl
      change wpAnyH _ _ _ _ _ _ _ (Act.put _ (some 76) _) _
      simp only [Act.put, List.setIfInBounds_toArray, List.set_cons_zero, List.set_cons_succ, Array.toArray_toList]
      refine wpAnyH_take (i := 18) (v := ?_) rfl (by kernel_rfl) (by kernel_rfl) (by kernel_rfl) (fun _ _ _ h => h) (Or.inl ⟨by rfl, ?_⟩) (by assumption) ?_
      rotate_left
      · intro w hSw; (try dsimp only at hSw); go_split_ands; go_simp; with_reducible rfl
      change wpAnyH _ _ _ _ _ _ _ (Act.put _ (some 77) _) _
      simp only [Act.put, List.setIfInBounds_toArray, List.set_cons_zero, List.set_cons_succ, Array.toArray_toList]
      refine wpAnyH_ready (rs := [19]) (by kernel_rfl) (by simp) ?_
      refine (AllReadyH.cons rfl (fun K hK => ?_) AllReadyH.nil)
      go_simp
      (with_reducible refine (copy_nil _).mono ?_); rintro e w11 ⟨rfl, rfl⟩
      go_wp2_with fail
      refine hK.out _ _ (by first | assumption | exact ra_alloc (by assumption) _) (fun hHeld => ?_)
      clear hK K
      refine wpAnyH_take (i := 20) (v := ?_) rfl (by kernel_rfl) (by kernel_rfl) (by kernel_rfl) (fun _ _ _ h => h) (Or.inl ⟨by rfl, ?_⟩) (by assumption) ?_
      rotate_left
      · intro w hSw; (try dsimp only at hSw); go_split_ands; go_simp; with_reducible rfl
      change wpAnyH _ _ _ _ _ _ _ (Act.put _ (some 79) _) _
      simp only [Act.put, List.setIfInBounds_toArray, List.set_cons_zero, List.set_cons_succ, Array.toArray_toList]
      refine wpAnyH_take (i := 21) (v := ?_) rfl (by kernel_rfl) (by kernel_rfl) (by kernel_rfl) (fun _ _ _ h => h) (Or.inl ⟨by rfl, ?_⟩) (by assumption) ?_
      rotate_left
      · intro w hSw; (try dsimp only at hSw); go_split_ands; go_simp; with_reducible rfl
      change wpAnyH _ _ _ _ _ _ _ (Act.put _ (some 80) _) _
      simp only [Act.put, List.setIfInBounds_toArray, List.set_cons_zero, List.set_cons_succ, Array.toArray_toList]
      refine wpAnyH_done (by kernel_rfl) ?_ _
      have R11 := Lib.hid R10.out
      have k11 := HK.out _ _ R11.out
      clear HSN HRN NE R6 R7 R8 R9 R10 k0 k8 k9 hHeld HK
      rcases HCC.out with ⟨rfl, rfl, rfl, rfl⟩ | ⟨gc, k0, xc, hc, rfl, rfl, hk1, hk2, hRc, rfl, rfl⟩
      · go_wp2_with fail
        with_reducible refine (known01 _).mono ?_
        rintro e w12 ⟨rfl, hb12⟩
        have R12 := Lib.hid (R11.out.below hb12)
        clear hb12
        go_wp2
        go_ret
        exact ⟨rfl, R12.out.bel⟩
      · obtain ⟨TK, hTK⟩ : ∃ l, catP (qs.take k0) = l := ⟨_, rfl⟩
        have hTT : T.take TK.length = TK := by
          rw [← hTK, ← HT.out]; exact catP_pre qs k0
        have hKT : TK.length ≤ T.length := by
          have := congrArg List.length hTT
          rw [List.length_take] at this
          omega
        rw [hTK] at hRc ⊢
        obtain ⟨x, hr, hRg, hR2⟩ := R11.out.turn hRc
        obtain ⟨K0, hK0⟩ : ∃ n, TK.length = n := ⟨_, rfl⟩
        rw [hK0] at hTT hKT ⊢
        obtain ⟨TL, hTL⟩ : ∃ n, T.length = n := ⟨_, rfl⟩
        rw [hTL] at hKT hcl hc2 H2 ⊢
        have HTL := Lib.hid hTL
        have HK0 := Lib.hid hK0
        have HRg := Lib.hid hRg
        have HTT := Lib.hid hTT
        obtain ⟨K1, hK1⟩ : ∃ K, sha TK = K := ⟨_, rfl⟩
        have hKl1 : K1.length = 32 := by rw [← hK1]; rfl
        obtain ⟨K2, hK2⟩ : ∃ K, sha (TK ++ T) = K := ⟨_, rfl⟩
        have hKl2 : K2.length = 32 := by rw [← hK2]; rfl
        obtain ⟨K3, hK3⟩ : ∃ K, sha T = K := ⟨_, rfl⟩
        have hKl3 : K3.length = 32 := by rw [← hK3]; rfl
        have EQ1 := eq32 K1 K1 hKl1 hKl1
        have EQ2 := eq32 K2 K2 hKl2 hKl2
        have EQ3 := eq32 K3 K3 hKl3 hKl3
        rw [beq_self_eq_true] at EQ1 EQ2 EQ3
        obtain ⟨XB, hXB⟩ : ∃ X : Bl, x :: [(g7, 60, KT)] = X := ⟨_, rfl⟩
        rw [hXB] at hR2
        have HKX := Lib.hid (show ∀ w' xr' st2, RunX W w' XB xr' gc st2 → w'.rangeAt g7 0 KT.toList from fun w' xr' st2 h =>
          (h.bk (show (g7, 60, KT) ∈ XB from hXB ▸ List.mem_cons_of_mem _ (List.mem_singleton_self _))).rangeL)
        have HKY := Lib.hid (show ∀ w' xb' xr' st2, RunX W w' (xb' :: [(g7, 60, KT)]) xr' (g7 + 1) st2 → w'.rangeAt g7 0 KT.toList from fun w' xb' xr' st2 h =>
          (h.bk (List.mem_cons_of_mem _ (List.mem_singleton_self _))).rangeL)
        have HXB := Lib.hid hXB
        have HS1 := Lib.hid (show ∀ w' xr', RunX W w' XB xr' gc (some TK) → Calls Try.prog 37 #[.pointer (some ⟨gc, 0, none⟩)] w' fun e w2 => e = .returned (.agg (b8a K1)) ∧ RunX W w2 XB xr' gc (some TK) from fun w' xr' h => by
          have := h.sum (by show TK.length ≤ _; omega)
          rw [show told (some TK) = TK from rfl, hK1] at this
          exact this)
        have HS2 := Lib.hid (show ∀ w' xr', RunX W w' XB xr' gc (some (TK ++ T)) → Calls Try.prog 37 #[.pointer (some ⟨gc, 0, none⟩)] w' fun e w2 => e = .returned (.agg (b8a K2)) ∧ RunX W w2 XB xr' gc (some (TK ++ T)) from fun w' xr' h => by
          have := h.sum (by show (TK ++ T).length ≤ _; rw [List.length_append]; omega)
          rw [show told (some (TK ++ T)) = TK ++ T from rfl, hK2] at this
          exact this)
        have HS3 := Lib.hid (show ∀ w' xb' xr', RunX W w' xb' xr' (g7 + 1) st → Calls Try.prog 37 #[.pointer (some ⟨g7 + 1, 0, none⟩)] w' fun e w2 => e = .returned (.agg (b8a K3)) ∧ RunX W w2 xb' xr' (g7 + 1) st from fun w' xb' xr' h => by
          have := h.sum (by rw [HST2.out]; omega)
          rw [HST2.out, hK3] at this
          exact this)
        have HL1 := Lib.hid (show ∀ w' xr', RunX W w' XB xr' gc (some TK) → Calls Try.prog 38 #[.pointer (some ⟨gc, 0, none⟩)] w' fun e w2 => e = .returned (.int .i64 (K0 : Nat)) ∧ w2 = w' from fun w' xr' h => by
          have := h.len
          rw [show told (some TK) = TK from rfl, hK0] at this
          exact this)
        have HR1 := Lib.hid (show ∀ w' xr', RunX W w' XB xr' gc (some TK) → List.Sublist ow xr' → Calls Try.prog 32 #[.agg KT, .slice A2 K0 c2] w' fun e w2 => e = .returned (.agg (b8a K1)) ∧ Below w'.heap.size w' w2 from fun w' xr' h hs => by
          have hr : RB w' w'.heap.size A2 T := h.src (by rw [hTL]; exact H2.out.sub (by simp) (fun y hy => hs.subset hy))
          have hr2 := hr.cut K0
          rw [hTT] at hr2
          have := HRS w' A2 c2 TK hr2 (by omega)
          rw [hK0, hK1] at this
          exact this)
        have HR2 := Lib.hid (show ∀ w' A c N X, Rd w' w'.heap.size 1 A N X → N = K0 + TL → X = by8 TK ++ by8 T → Calls Try.prog 32 #[.agg KT, .slice A N c] w' fun e w2 => e = .returned (.agg (b8a K2)) ∧ Below w'.heap.size w' w2 from fun w' A c N X h h1 h2 => by
          have h3 : (TK ++ T).length = N := by rw [List.length_append]; omega
          rw [h2, ← by8_append, ← h3] at h
          have := HRS w' A c _ h (by omega)
          rw [h3, hK2] at this
          exact this)
        have HR3 := Lib.hid (show ∀ w' xb' xr', RunX W w' xb' xr' (g7 + 1) st → List.Sublist ow xr' → Calls Try.prog 32 #[.agg KT, .slice A2 TL c2] w' fun e w2 => e = .returned (.agg (b8a K3)) ∧ Below w'.heap.size w' w2 from fun w' xb' xr' h hs => by
          have hr : RB w' w'.heap.size A2 T := h.src (by rw [hTL]; exact H2.out.sub (by simp) (fun y hy => hs.subset hy))
          have := HRS w' A2 c2 T hr (by omega)
          rw [hTL, hK3] at this
          exact this)
        have HADD := Lib.hid (show ∀ w' xr' A' c', RunX W w' XB xr' gc (some TK) → SPts W XB xr' A' [⟨A2, c2, T⟩] → Calls Try.prog 36 #[.pointer (some ⟨gc, 0, none⟩), .slice A' 1 c'] w' fun e w2 => e = .returned (.pointer (some ⟨gc, 0, none⟩)) ∧ RunX W w2 XB xr' gc (some (TK ++ T)) from fun w' xr' A' c' h hs => by
          have := add_any W w' XB xr' gc (some TK) h A' c' _ hs (by simp) (by show TK.length + _ ≤ _; simp [catP]; omega)
          rw [show told (some TK) = TK from rfl, show catP [⟨A2, c2, T⟩] = T by simp [catP]] at this
          exact this)
        have i1 : (0 : Int) ≤ K0 := by omega
        have i2 : (K0 : Int) ≤ c2 := by omega
        have b1 : 0 + K0 ≤ maxLen := by unfold maxLen; omega
        have b2 : (0 + K0) * 1 ≤ 140737488355328 := by omega
        have b3 : ∀ N, N = 0 + K0 → N + TL ≤ maxLen := by intro N h; unfold maxLen; omega
        have b4 : ∀ N, N = 0 + K0 → (N + TL) * 1 ≤ 140737488355328 := by intro N h; omega
        have b5 : ∀ N N', N = 0 + K0 → N' = N + TL → N' = K0 + TL := by intro N N' h h'; omega
        have B1 := Lib.hid b1
        have B2 := Lib.hid b2
        have B3 := Lib.hid b3
        have B4 := Lib.hid b4
        have B5 := Lib.hid b5
        have HA2 := Lib.hid (show ∀ xr', List.Sublist ow xr' → Src W XB xr' 1 A2 TL (by8 T) from fun xr' hs => H2.out.sub (by simp) (fun y hy => hs.subset hy))
        have HA3 := Lib.hid (show ∀ xr', List.Sublist ow xr' → Src W XB xr' 1 A2 K0 (by8 TK) from fun xr' hs => by
          have h1 := HA2.out xr' hs
          refine ⟨by rw [by8_length, hK0]; omega, fun hn => ?_⟩
          obtain ⟨b, o, e, hh⟩ := h1.2 (by omega)
          have hg : ∀ (j : Nat) (u : Value), (by8 TK)[j]? = some u → (by8 T)[j]? = some u := by
            intro j u hu
            rw [← hTT] at hu
            simp only [by8, List.map_take] at hu
            rw [List.getElem?_take] at hu
            split at hu
            · exact hu
            · cases hu
          refine ⟨b, o, e, ?_⟩
          rcases hh with ⟨h2, h3⟩ | ⟨t, cs, h2, h3⟩ | ⟨y, h2, h4, h3⟩
          · exact .inl ⟨h2, fun j u hu => h3 j u (hg j u hu)⟩
          · exact .inr (.inl ⟨t, cs, h2, fun j u hu => h3 j u (hg j u hu)⟩)
          · exact .inr (.inr ⟨y, h2, h4, fun j u hu => h3 j u (hg j u hu)⟩))
        have Rq := Lib.hid (hR2.below (Below.refl _ _).drew)
        have k12 := HKX.out _ _ _ Rq.out
        have hN := Try.underlying68
        clear hRc hk1 hk2 hTK hTT hTL hK0 hK1 hK2 hK3 hKl1 hKl2 hKl3 hXB k11 b1 b2 b3 b4 b5 hRg hR2 R11 HCC
        go_wp2_with fail
        refine wp_region_held_drew (S := fun w' => w'.rangeAt g7 0 KT.toList) (by kernel_rfl) ?_ (fun hHeld => ?_)
        · exact k12
        refine wpAnyH_ready (rs := [0]) (by kernel_rfl) (by simp) ?_
        refine (AllReadyH.cons rfl (fun K hK => ?_) AllReadyH.nil)
        go_simp
        (with_reducible refine (known01 _).mono ?_); rintro e wq ⟨rfl, hb⟩; have Rq := Lib.hid (Rq.out.below hb); clear hb
        go_wp2_with fail
        refine hK.out _ _ (by first | exact HKX.out _ _ _ Rq.out | exact HKY.out _ _ _ _ Rq.out) (fun hHeld => ?_)
        clear hK K
        refine wpAnyH_take (i := 1) (v := ?_) rfl (by kernel_rfl) (by kernel_rfl) (by kernel_rfl) (fun _ _ _ h => h) (Or.inl ⟨by rfl, ?_⟩) (by assumption) ?_
        rotate_left
        · intro w hSw; (try dsimp only at hSw); go_split_ands; go_simp; with_reducible rfl
        change wpAnyH _ _ _ _ _ _ _ (Act.put _ (some 85) _) _
        simp only [Act.put, List.setIfInBounds_toArray, List.set_cons_zero, List.set_cons_succ, Array.toArray_toList]
        refine wpAnyH_take (i := 2) (v := ?_) rfl (by kernel_rfl) (by kernel_rfl) (by kernel_rfl) (fun _ _ _ h => h) (Or.inl ⟨by rfl, ?_⟩) (by assumption) ?_
        rotate_left
        · intro w hSw; (try dsimp only at hSw); go_split_ands; go_simp; with_reducible rfl
        change wpAnyH _ _ _ _ _ _ _ (Act.put _ (some 86) _) _
        simp only [Act.put, List.setIfInBounds_toArray, List.set_cons_zero, List.set_cons_succ, Array.toArray_toList]
        refine wpAnyH_take (i := 4) rfl (by kernel_rfl) (by kernel_rfl) (by kernel_rfl) (fun _ _ _ h => h) (yieldsIf_load_mid (by rfl) _ _ rfl _ _ rfl _ _ (fun w hw => hw) hu hd hki) (by assumption) ?_
        change wpAnyH _ _ _ _ _ _ _ (Act.put _ (some 88) _) _
        simp only [Act.put, List.setIfInBounds_toArray, List.set_cons_zero, List.set_cons_succ, Array.toArray_toList]
        refine wpAnyH_take (i := 5) (v := ?_) rfl (by kernel_rfl) (by kernel_rfl) (by kernel_rfl) (fun _ _ _ h => h) (Or.inl ⟨by rfl, ?_⟩) (by assumption) ?_
        rotate_left
        · intro w hSw; (try dsimp only at hSw); go_split_ands; go_simp; with_reducible rfl
        change wpAnyH _ _ _ _ _ _ _ (Act.put _ (some 89) _) _
        simp only [Act.put, List.setIfInBounds_toArray, List.set_cons_zero, List.set_cons_succ, Array.toArray_toList]
        refine wpAnyH_take (i := 6) (v := ?_) rfl (by kernel_rfl) (by kernel_rfl) (by kernel_rfl) (fun _ _ _ h => h) (Or.inl ⟨by rfl, ?_⟩) (by assumption) ?_
        rotate_left
        · intro w hSw; (try dsimp only at hSw); go_split_ands; go_simp; with_reducible rfl
        change wpAnyH _ _ _ _ _ _ _ (Act.put _ (some 90) _) _
        simp only [Act.put, List.setIfInBounds_toArray, List.set_cons_zero, List.set_cons_succ, Array.toArray_toList]
        refine wpAnyH_take (i := 7) (v := ?_) rfl (by kernel_rfl) (by kernel_rfl) (by kernel_rfl) (fun _ _ _ h => h) (Or.inl ⟨by rfl, ?_⟩) (by assumption) ?_
        rotate_left
        · intro w hSw; (try dsimp only at hSw); go_split_ands; go_simp; with_reducible rfl
        change wpAnyH _ _ _ _ _ _ _ (Act.put _ (some 91) _) _
        simp only [Act.put, List.setIfInBounds_toArray, List.set_cons_zero, List.set_cons_succ, Array.toArray_toList]
        refine wpAnyH_ready (rs := [3]) (by kernel_rfl) (by simp) ?_
        refine (AllReadyH.cons rfl (fun K hK => ?_) AllReadyH.nil)
        go_simp
        (with_reducible refine (HS1.out _ _ Rq.out).mono ?_); rintro e wq ⟨rfl, rq⟩; have Rq := Lib.hid rq; clear rq
        go_wp2_with fail
        refine hK.out _ _ (by first | exact HKX.out _ _ _ Rq.out | exact HKY.out _ _ _ _ Rq.out) (fun hHeld => ?_)
        clear hK K
        refine wpAnyH_ready (rs := [8]) (by kernel_rfl) (by simp) ?_
        refine (AllReadyH.cons rfl (fun K hK => ?_) AllReadyH.nil)
        go_simp
        (with_reducible refine (HR1.out _ _ Rq.out (List.sublist_append_right _ _)).mono ?_); rintro e wq ⟨rfl, hb⟩; have Rq := Lib.hid (Rq.out.below hb); clear hb
        go_wp2_with fail
        refine hK.out _ _ (by first | exact HKX.out _ _ _ Rq.out | exact HKY.out _ _ _ _ Rq.out) (fun hHeld => ?_)
        clear hK K
        refine wpAnyH_take (i := 9) (v := ?_) rfl (by kernel_rfl) (by kernel_rfl) (by kernel_rfl) (fun _ _ _ h => h) (Or.inl ⟨by rfl, ?_⟩) (by assumption) ?_
        rotate_left
        · intro w hSw; (try dsimp only at hSw); go_split_ands; go_simp; with_reducible rfl
        change wpAnyH _ _ _ _ _ _ _ (Act.put _ (some 93) _) _
        simp only [Act.put, List.setIfInBounds_toArray, List.set_cons_zero, List.set_cons_succ, Array.toArray_toList]
        refine wpAnyH_take (i := 10) (v := ?_) rfl (by kernel_rfl) (by kernel_rfl) (by kernel_rfl) (fun _ _ _ h => h) (Or.inl ⟨by rfl, ?_⟩) (by assumption) ?_
        rotate_left
        · intro w hSw; (try dsimp only at hSw); go_split_ands; go_simp; with_reducible rfl
        change wpAnyH _ _ _ _ _ _ _ (Act.put _ (some 94) _) _
        simp only [Act.put, List.setIfInBounds_toArray, List.set_cons_zero, List.set_cons_succ, Array.toArray_toList]
        refine wpAnyH_take (i := 11) (v := ?_) rfl (by kernel_rfl) (by kernel_rfl) (by kernel_rfl) (fun _ _ _ h => h) (Or.inl ⟨by rfl, ?_⟩) (by assumption) ?_
        rotate_left
        · intro w hSw; (try dsimp only at hSw); go_split_ands; go_simp; with_reducible rfl
        change wpAnyH _ _ _ _ _ _ _ (Act.put _ (some 95) _) _
        simp only [Act.put, List.setIfInBounds_toArray, List.set_cons_zero, List.set_cons_succ, Array.toArray_toList]
        refine wpAnyH_take (i := 12) (v := ?_) rfl (by kernel_rfl) (by kernel_rfl) (by kernel_rfl) (fun _ _ _ h => h) (Or.inl ⟨by rfl, ?_⟩) (by assumption) ?_
        rotate_left
        · intro w hSw; (try dsimp only at hSw); go_split_ands; go_simp; with_reducible rfl
        change wpAnyH _ _ _ _ _ _ _ (Act.put _ (some 96) _) _
        simp only [Act.put, List.setIfInBounds_toArray, List.set_cons_zero, List.set_cons_succ, Array.toArray_toList]
        refine wpAnyH_take (i := 14) (v := ?_) rfl (by kernel_rfl) (by kernel_rfl) (by kernel_rfl) (fun _ _ _ h => h) (Or.inl ⟨by rfl, ?_⟩) (by assumption) ?_
        rotate_left
        · intro w hSw; (try dsimp only at hSw); go_split_ands; go_simp; with_reducible rfl
        change wpAnyH _ _ _ _ _ _ _ (Act.put _ (some 98) _) _
        simp only [Act.put, List.setIfInBounds_toArray, List.set_cons_zero, List.set_cons_succ, Array.toArray_toList]
        refine wpAnyH_ready (rs := [13]) (by kernel_rfl) (by simp) ?_
        refine (AllReadyH.cons rfl (fun K hK => ?_) AllReadyH.nil)
        go_simp
        (with_reducible refine (HL1.out _ _ Rq.out).mono ?_); rintro e wq ⟨rfl, rfl⟩
        go_wp2_with fail
        refine hK.out _ _ (by first | exact HKX.out _ _ _ Rq.out | exact HKY.out _ _ _ _ Rq.out) (fun hHeld => ?_)
        clear hK K
        refine wpAnyH_take (i := 15) (v := ?_) rfl (by kernel_rfl) (by kernel_rfl) (by kernel_rfl) (fun _ _ _ h => h) (Or.inl ⟨by rfl, ?_⟩) (by assumption) ?_
        rotate_left
        · intro w hSw; (try dsimp only at hSw); go_split_ands; go_simp; with_reducible rfl
        change wpAnyH _ _ _ _ _ _ _ (Act.put _ (some 99) _) _
        simp only [Act.put, List.setIfInBounds_toArray, List.set_cons_zero, List.set_cons_succ, Array.toArray_toList]
        refine wpAnyH_take (i := 16) (v := ?_) rfl (by kernel_rfl) (by kernel_rfl) (by kernel_rfl) (fun _ _ _ h => h) (Or.inl ⟨by rfl, ?_⟩) (by assumption) ?_
        rotate_left
        · intro w hSw; (try dsimp only at hSw); go_split_ands; go_simp; with_reducible rfl
        change wpAnyH _ _ _ _ _ _ _ (Act.put _ (some 100) _) _
        simp only [Act.put, List.setIfInBounds_toArray, List.set_cons_zero, List.set_cons_succ, Array.toArray_toList]
        refine wpAnyH_take (i := 17) (v := ?_) rfl (by kernel_rfl) (by kernel_rfl) (by kernel_rfl) (fun _ _ _ h => h) (Or.inl ⟨by rfl, ?_⟩) (by assumption) ?_
        rotate_left
        · intro w hSw; (try dsimp only at hSw); go_split_ands; go_simp; with_reducible rfl
        change wpAnyH _ _ _ _ _ _ _ (Act.put _ (some 101) _) _
        simp only [Act.put, List.setIfInBounds_toArray, List.set_cons_zero, List.set_cons_succ, Array.toArray_toList]
        refine wpAnyH_take (i := 18) (v := ?_) rfl (by kernel_rfl) (by kernel_rfl) (by kernel_rfl) (fun _ _ _ h => h) (Or.inl ⟨by rfl, ?_⟩) (by assumption) ?_
        rotate_left
        · intro w hSw; (try dsimp only at hSw); go_split_ands; go_simp; with_reducible rfl
        change wpAnyH _ _ _ _ _ _ _ (Act.put _ (some 102) _) _
        simp only [Act.put, List.setIfInBounds_toArray, List.set_cons_zero, List.set_cons_succ, Array.toArray_toList]
        refine wpAnyH_take (i := 19) (v := ?_) rfl (by kernel_rfl) (by kernel_rfl) (by kernel_rfl) (fun _ _ _ h => h) (Or.inl ⟨by rfl, ?_⟩) (by assumption) ?_
        rotate_left
        · intro w hSw; (try dsimp only at hSw); go_split_ands; go_simp; with_reducible rfl
        change wpAnyH _ _ _ _ _ _ _ (Act.put _ (some 103) _) _
        simp only [Act.put, List.setIfInBounds_toArray, List.set_cons_zero, List.set_cons_succ, Array.toArray_toList]
        refine wpAnyH_take (i := 23) rfl (by kernel_rfl) (by kernel_rfl) (by kernel_rfl) (fun _ _ _ h => h) (yieldsIf_load_mid (by rfl) _ _ rfl _ _ rfl _ _ (fun w hw => hw) hu hd hki) (by assumption) ?_
        change wpAnyH _ _ _ _ _ _ _ (Act.put _ (some 107) _) _
        simp only [Act.put, List.setIfInBounds_toArray, List.set_cons_zero, List.set_cons_succ, Array.toArray_toList]
        refine wpAnyH_take (i := 25) (v := ?_) rfl (by kernel_rfl) (by kernel_rfl) (by kernel_rfl) (fun _ _ _ h => h) (Or.inl ⟨by rfl, ?_⟩) (by assumption) ?_
        rotate_left
        · intro w hSw; (try dsimp only at hSw); go_split_ands; go_simp; with_reducible rfl
        change wpAnyH _ _ _ _ _ _ _ (Act.put _ (some 109) _) _
        simp only [Act.put, List.setIfInBounds_toArray, List.set_cons_zero, List.set_cons_succ, Array.toArray_toList]
        refine wpAnyH_take (i := 26) (v := ?_) rfl (by kernel_rfl) (by kernel_rfl) (by kernel_rfl) (fun _ _ _ h => h) (Or.inl ⟨by rfl, ?_⟩) (by assumption) ?_
        rotate_left
        · intro w hSw; (try dsimp only at hSw); go_split_ands; go_simp; with_reducible rfl
        change wpAnyH _ _ _ _ _ _ _ (Act.put _ (some 110) _) _
        simp only [Act.put, List.setIfInBounds_toArray, List.set_cons_zero, List.set_cons_succ, Array.toArray_toList]
        refine wpAnyH_take (i := 27) (v := ?_) rfl (by kernel_rfl) (by kernel_rfl) (by kernel_rfl) (fun _ _ _ h => h) (Or.inl ⟨by rfl, ?_⟩) (by assumption) ?_
        rotate_left
        · intro w hSw; (try dsimp only at hSw); go_split_ands; go_simp; with_reducible rfl
        change wpAnyH _ _ _ _ _ _ _ (Act.put _ (some 111) _) _
        simp only [Act.put, List.setIfInBounds_toArray, List.set_cons_zero, List.set_cons_succ, Array.toArray_toList]
        refine wpAnyH_take (i := 29) (v := ?_) rfl (by kernel_rfl) (by kernel_rfl) (by kernel_rfl) (fun _ _ _ h => h) (Or.inl ⟨by rfl, ?_⟩) (by assumption) ?_
        rotate_left
        · intro w hSw; (try dsimp only at hSw); go_split_ands; go_simp; with_reducible rfl
        change wpAnyH _ _ _ _ _ _ _ (Act.put _ (some 113) _) _
        simp only [Act.put, List.setIfInBounds_toArray, List.set_cons_zero, List.set_cons_succ, Array.toArray_toList]
        refine wpAnyH_ready (rs := [20, 24]) (by kernel_rfl) (by simp) ?_
        refine (AllReadyH.cons rfl (fun K hK => ?_) (AllReadyH.cons rfl (fun K hK => ?_) AllReadyH.nil))
        · skip
          go_simp; generalize hwq : World.alloc _ _ = wq; obtain ⟨y1, rq, hsp⟩ := Rq.out.oneE HTL.out (HA2.out _ (by first | exact List.sublist_append_right _ _ | exact (List.sublist_append_right _ _).cons _)) hwq; have Rq := Lib.hid rq; have HSP := Lib.hid hsp; clear hwq rq hsp
          refine hK.out _ _ (by first | exact HKX.out _ _ _ Rq.out | exact HKY.out _ _ _ _ Rq.out) (fun hHeld => ?_)
          clear hK K
          refine wpAnyH_ready (rs := [21, 24]) (by kernel_rfl) (by simp) ?_
          refine (AllReadyH.cons rfl (fun K hK => ?_) (AllReadyH.cons rfl (fun K hK => ?_) AllReadyH.nil))
          · skip
            go_simp
            (first | with_reducible refine (HADD.out _ _ _ _ Rq.out HSP.out).mono ?_ | with_reducible refine (HADD.out _ _ _ _ Rq.out (HSP.out.cr _)).mono ?_); rintro e wq ⟨rfl, rq⟩; have Rq := Lib.hid rq; clear rq
            go_wp2_with fail
            refine hK.out _ _ (by first | exact HKX.out _ _ _ Rq.out | exact HKY.out _ _ _ _ Rq.out) (fun hHeld => ?_)
            clear hK K
            refine wpAnyH_ready (rs := [22, 24]) (by kernel_rfl) (by simp) ?_
            refine (AllReadyH.cons rfl (fun K hK => ?_) (AllReadyH.cons rfl (fun K hK => ?_) AllReadyH.nil))
            · skip
              go_simp
              (with_reducible refine (HS2.out _ _ Rq.out).mono ?_); rintro e wq ⟨rfl, rq⟩; have Rq := Lib.hid rq; clear rq
              go_wp2_with fail
              refine hK.out _ _ (by first | exact HKX.out _ _ _ Rq.out | exact HKY.out _ _ _ _ Rq.out) (fun hHeld => ?_)
              clear hK K
              refine wpAnyH_ready (rs := [24]) (by kernel_rfl) (by simp) ?_
              refine (AllReadyH.cons rfl (fun K hK => ?_) AllReadyH.nil)
              go_simp; generalize hwq : World.alloc _ _ = wq; have Rq := Lib.hid (Rq.out.rowE hwq); clear hwq
              refine hK.out _ _ (by first | exact HKX.out _ _ _ Rq.out | exact HKY.out _ _ _ _ Rq.out) (fun hHeld => ?_)
              clear hK K
              refine wpAnyH_ready (rs := [28]) (by kernel_rfl) (by simp) ?_
              refine (AllReadyH.cons rfl (fun K hK => ?_) AllReadyH.nil)
              (first | refine step_appX (by kernel_rfl) _ _ 26 rfl Rq.out el_u8c rfl A2 K0 c2 (by8 TK) rfl (HA3.out _ ((List.sublist_append_right _ _).cons _)) (by8_one _) B1.out B2.out ?_ | refine step_appX (by kernel_rfl) _ _ 26 rfl Rq.out.swap el_u8c rfl A2 K0 c2 (by8 TK) rfl (HA3.out _ ((List.sublist_append_right _ _).cons _)) (by8_one _) B1.out B2.out ?_); intro A8 c8 wq N1 X1 hn1 hx1 rq; have HN1 := Lib.hid hn1; have HX1 := Lib.hid hx1; have Rq := Lib.hid rq; clear hn1 hx1 rq
              refine hK.out _ _ (by first | exact HKX.out _ _ _ Rq.out | exact HKY.out _ _ _ _ Rq.out) (fun hHeld => ?_)
              clear hK K
              refine wpAnyH_ready (rs := [30]) (by kernel_rfl) (by simp) ?_
              refine (AllReadyH.cons rfl (fun K hK => ?_) AllReadyH.nil)
              refine step_appX (by kernel_rfl) _ _ 26 rfl Rq.out el_u8c rfl A2 TL c2 (by8 T) rfl (HA2.out _ ((List.sublist_append_right _ _).cons _)) (by8_one _) (B3.out _ HN1.out) (B4.out _ HN1.out) ?_; intro A9 c9 wq N2 X2 hn2 hx2 rq; have HN2 := Lib.hid hn2; have HX2 := Lib.hid (show X2 = by8 TK ++ by8 T by rw [hx2, HX1.out]; rfl); have Rq := Lib.hid rq; clear hn2 hx2 rq
              refine hK.out _ _ (by first | exact HKX.out _ _ _ Rq.out | exact HKY.out _ _ _ _ Rq.out) (fun hHeld => ?_)
              clear hK K
              refine wpAnyH_ready (rs := [31]) (by kernel_rfl) (by simp) ?_
              refine (AllReadyH.cons rfl (fun K hK => ?_) AllReadyH.nil)
              go_simp
              (with_reducible refine (HR2.out _ _ _ _ _ (Rq.out.mst.src (Rq.out.mst.rowSrc (List.mem_cons_self ..))) (B5.out _ _ HN1.out HN2.out) HX2.out).mono ?_); rintro e wq ⟨rfl, hb⟩; obtain ⟨y3, hr3, hRc3, r3⟩ := ((Rq.out.below hb).subl (List.Sublist.refl _) (.cons _ (.cons _ (.refl _)))).turnX HXB.out HRg.out; have Rq := Lib.hid r3; clear hb r3
              go_wp2_with fail
              refine hK.out _ _ (by first | exact HKX.out _ _ _ Rq.out | exact HKY.out _ _ _ _ Rq.out) (fun hHeld => ?_)
              clear hK K
              refine wpAnyH_take (i := 32) (v := ?_) rfl (by kernel_rfl) (by kernel_rfl) (by kernel_rfl) (fun _ _ _ h => h) (Or.inl ⟨by rfl, ?_⟩) (by assumption) ?_
              rotate_left
              · intro w hSw; (try dsimp only at hSw); go_split_ands; go_simp; with_reducible rfl
              change wpAnyH _ _ _ _ _ _ _ (Act.put _ (some 116) _) _
              simp only [Act.put, List.setIfInBounds_toArray, List.set_cons_zero, List.set_cons_succ, Array.toArray_toList]
              refine wpAnyH_take (i := 33) (v := ?_) rfl (by kernel_rfl) (by kernel_rfl) (by kernel_rfl) (fun _ _ _ h => h) (Or.inl ⟨by rfl, ?_⟩) (by assumption) ?_
              rotate_left
              · intro w hSw; (try dsimp only at hSw); go_split_ands; go_simp; with_reducible rfl
              change wpAnyH _ _ _ _ _ _ _ (Act.put _ (some 117) _) _
              simp only [Act.put, List.setIfInBounds_toArray, List.set_cons_zero, List.set_cons_succ, Array.toArray_toList]
              refine wpAnyH_take (i := 34) (v := ?_) rfl (by kernel_rfl) (by kernel_rfl) (by kernel_rfl) (fun _ _ _ h => h) (Or.inl ⟨by rfl, ?_⟩) (by assumption) ?_
              rotate_left
              · intro w hSw; (try dsimp only at hSw); go_split_ands; go_simp; with_reducible rfl
              change wpAnyH _ _ _ _ _ _ _ (Act.put _ (some 118) _) _
              simp only [Act.put, List.setIfInBounds_toArray, List.set_cons_zero, List.set_cons_succ, Array.toArray_toList]
              refine wpAnyH_take (i := 36) rfl (by kernel_rfl) (by kernel_rfl) (by kernel_rfl) (fun _ _ _ h => h) (yieldsIf_load_mid (by rfl) _ _ rfl _ _ rfl _ _ (fun w hw => hw) hu hd hki) (by assumption) ?_
              change wpAnyH _ _ _ _ _ _ _ (Act.put _ (some 120) _) _
              simp only [Act.put, List.setIfInBounds_toArray, List.set_cons_zero, List.set_cons_succ, Array.toArray_toList]
              refine wpAnyH_take (i := 37) (v := ?_) rfl (by kernel_rfl) (by kernel_rfl) (by kernel_rfl) (fun _ _ _ h => h) (Or.inl ⟨by rfl, ?_⟩) (by assumption) ?_
              rotate_left
              · intro w hSw; (try dsimp only at hSw); go_split_ands; go_simp; with_reducible rfl
              change wpAnyH _ _ _ _ _ _ _ (Act.put _ (some 121) _) _
              simp only [Act.put, List.setIfInBounds_toArray, List.set_cons_zero, List.set_cons_succ, Array.toArray_toList]
              refine wpAnyH_ready (rs := [35]) (by kernel_rfl) (by simp) ?_
              refine (AllReadyH.cons rfl (fun K hK => ?_) AllReadyH.nil)
              go_simp
              (with_reducible refine (HS3.out _ _ _ Rq.out).mono ?_); rintro e wq ⟨rfl, rq⟩; have Rq := Lib.hid rq; clear rq
              go_wp2_with fail
              refine hK.out _ _ (by first | exact HKX.out _ _ _ Rq.out | exact HKY.out _ _ _ _ Rq.out) (fun hHeld => ?_)
              clear hK K
              refine wpAnyH_ready (rs := [38]) (by kernel_rfl) (by simp) ?_
              refine (AllReadyH.cons rfl (fun K hK => ?_) AllReadyH.nil)
              go_simp
              (with_reducible refine (HR3.out _ _ _ Rq.out (List.sublist_append_right _ _)).mono ?_); rintro e wq ⟨rfl, hb⟩; have Rq := Lib.hid (Rq.out.below hb); clear hb
              go_wp2_with fail
              refine hK.out _ _ (by first | exact HKX.out _ _ _ Rq.out | exact HKY.out _ _ _ _ Rq.out) (fun hHeld => ?_)
              clear hK K
              refine wpAnyH_take (i := 39) (v := ?_) rfl (by kernel_rfl) (by kernel_rfl) (by kernel_rfl) (fun _ _ _ h => h) (Or.inl ⟨by rfl, ?_⟩) (by assumption) ?_
              rotate_left
              · intro w hSw; (try dsimp only at hSw); go_split_ands; go_simp; with_reducible rfl
              change wpAnyH _ _ _ _ _ _ _ (Act.put _ (some 123) _) _
              simp only [Act.put, List.setIfInBounds_toArray, List.set_cons_zero, List.set_cons_succ, Array.toArray_toList]
              refine wpAnyH_take (i := 40) (v := ?_) rfl (by kernel_rfl) (by kernel_rfl) (by kernel_rfl) (fun _ _ _ h => h) (Or.inl ⟨by rfl, ?_⟩) (by assumption) ?_
              rotate_left
              · intro w hSw; (try dsimp only at hSw); go_split_ands; go_simp; with_reducible rfl
              change wpAnyH _ _ _ _ _ _ _ (Act.put _ (some 124) _) _
              simp only [Act.put, List.setIfInBounds_toArray, List.set_cons_zero, List.set_cons_succ, Array.toArray_toList]
              refine wpAnyH_take (i := 41) (v := ?_) rfl (by kernel_rfl) (by kernel_rfl) (by kernel_rfl) (fun _ _ _ h => h) (Or.inl ⟨by rfl, ?_⟩) (by assumption) ?_
              rotate_left
              · intro w hSw; (try dsimp only at hSw); go_split_ands; go_simp; with_reducible rfl
              change wpAnyH _ _ _ _ _ _ _ (Act.put _ (some 4) _) _
              simp only [Act.put, List.setIfInBounds_toArray, List.set_cons_zero, List.set_cons_succ, Array.toArray_toList]
              refine wpAnyH_done (by kernel_rfl) ?_ _
              go_wp2
              go_ret
              exact ⟨rfl, Rq.out.bel⟩
            · skip
              go_simp; generalize hwq : World.alloc _ _ = wq; have Rq := Lib.hid (Rq.out.rowE hwq); clear hwq
              refine hK.out _ _ (by first | exact HKX.out _ _ _ Rq.out | exact HKY.out _ _ _ _ Rq.out) (fun hHeld => ?_)
              clear hK K
              refine wpAnyH_ready (rs := [22]) (by kernel_rfl) (by simp) ?_
              refine (AllReadyH.cons rfl (fun K hK => ?_) AllReadyH.nil)
              go_simp
              (with_reducible refine (HS2.out _ _ Rq.out).mono ?_); rintro e wq ⟨rfl, rq⟩; have Rq := Lib.hid rq; clear rq
              go_wp2_with fail
              refine hK.out _ _ (by first | exact HKX.out _ _ _ Rq.out | exact HKY.out _ _ _ _ Rq.out) (fun hHeld => ?_)
              clear hK K
              refine wpAnyH_ready (rs := [28]) (by kernel_rfl) (by simp) ?_
              refine (AllReadyH.cons rfl (fun K hK => ?_) AllReadyH.nil)
              (first | refine step_appX (by kernel_rfl) _ _ 26 rfl Rq.out el_u8c rfl A2 K0 c2 (by8 TK) rfl (HA3.out _ ((List.sublist_append_right _ _).cons _)) (by8_one _) B1.out B2.out ?_ | refine step_appX (by kernel_rfl) _ _ 26 rfl Rq.out.swap el_u8c rfl A2 K0 c2 (by8 TK) rfl (HA3.out _ ((List.sublist_append_right _ _).cons _)) (by8_one _) B1.out B2.out ?_); intro A8 c8 wq N1 X1 hn1 hx1 rq; have HN1 := Lib.hid hn1; have HX1 := Lib.hid hx1; have Rq := Lib.hid rq; clear hn1 hx1 rq
              refine hK.out _ _ (by first | exact HKX.out _ _ _ Rq.out | exact HKY.out _ _ _ _ Rq.out) (fun hHeld => ?_)
              clear hK K
              refine wpAnyH_ready (rs := [30]) (by kernel_rfl) (by simp) ?_
              refine (AllReadyH.cons rfl (fun K hK => ?_) AllReadyH.nil)
              refine step_appX (by kernel_rfl) _ _ 26 rfl Rq.out el_u8c rfl A2 TL c2 (by8 T) rfl (HA2.out _ ((List.sublist_append_right _ _).cons _)) (by8_one _) (B3.out _ HN1.out) (B4.out _ HN1.out) ?_; intro A9 c9 wq N2 X2 hn2 hx2 rq; have HN2 := Lib.hid hn2; have HX2 := Lib.hid (show X2 = by8 TK ++ by8 T by rw [hx2, HX1.out]; rfl); have Rq := Lib.hid rq; clear hn2 hx2 rq
              refine hK.out _ _ (by first | exact HKX.out _ _ _ Rq.out | exact HKY.out _ _ _ _ Rq.out) (fun hHeld => ?_)
              clear hK K
              refine wpAnyH_ready (rs := [31]) (by kernel_rfl) (by simp) ?_
              refine (AllReadyH.cons rfl (fun K hK => ?_) AllReadyH.nil)
              go_simp
              (with_reducible refine (HR2.out _ _ _ _ _ (Rq.out.mst.src (Rq.out.mst.rowSrc (List.mem_cons_self ..))) (B5.out _ _ HN1.out HN2.out) HX2.out).mono ?_); rintro e wq ⟨rfl, hb⟩; obtain ⟨y3, hr3, hRc3, r3⟩ := ((Rq.out.below hb).subl (List.Sublist.refl _) (.cons _ (.cons _ (.refl _)))).turnX HXB.out HRg.out; have Rq := Lib.hid r3; clear hb r3
              go_wp2_with fail
              refine hK.out _ _ (by first | exact HKX.out _ _ _ Rq.out | exact HKY.out _ _ _ _ Rq.out) (fun hHeld => ?_)
              clear hK K
              refine wpAnyH_take (i := 32) (v := ?_) rfl (by kernel_rfl) (by kernel_rfl) (by kernel_rfl) (fun _ _ _ h => h) (Or.inl ⟨by rfl, ?_⟩) (by assumption) ?_
              rotate_left
              · intro w hSw; (try dsimp only at hSw); go_split_ands; go_simp; with_reducible rfl
              change wpAnyH _ _ _ _ _ _ _ (Act.put _ (some 116) _) _
              simp only [Act.put, List.setIfInBounds_toArray, List.set_cons_zero, List.set_cons_succ, Array.toArray_toList]
              refine wpAnyH_take (i := 33) (v := ?_) rfl (by kernel_rfl) (by kernel_rfl) (by kernel_rfl) (fun _ _ _ h => h) (Or.inl ⟨by rfl, ?_⟩) (by assumption) ?_
              rotate_left
              · intro w hSw; (try dsimp only at hSw); go_split_ands; go_simp; with_reducible rfl
              change wpAnyH _ _ _ _ _ _ _ (Act.put _ (some 117) _) _
              simp only [Act.put, List.setIfInBounds_toArray, List.set_cons_zero, List.set_cons_succ, Array.toArray_toList]
              refine wpAnyH_take (i := 34) (v := ?_) rfl (by kernel_rfl) (by kernel_rfl) (by kernel_rfl) (fun _ _ _ h => h) (Or.inl ⟨by rfl, ?_⟩) (by assumption) ?_
              rotate_left
              · intro w hSw; (try dsimp only at hSw); go_split_ands; go_simp; with_reducible rfl
              change wpAnyH _ _ _ _ _ _ _ (Act.put _ (some 118) _) _
              simp only [Act.put, List.setIfInBounds_toArray, List.set_cons_zero, List.set_cons_succ, Array.toArray_toList]
              refine wpAnyH_take (i := 36) rfl (by kernel_rfl) (by kernel_rfl) (by kernel_rfl) (fun _ _ _ h => h) (yieldsIf_load_mid (by rfl) _ _ rfl _ _ rfl _ _ (fun w hw => hw) hu hd hki) (by assumption) ?_
              change wpAnyH _ _ _ _ _ _ _ (Act.put _ (some 120) _) _
              simp only [Act.put, List.setIfInBounds_toArray, List.set_cons_zero, List.set_cons_succ, Array.toArray_toList]
              refine wpAnyH_take (i := 37) (v := ?_) rfl (by kernel_rfl) (by kernel_rfl) (by kernel_rfl) (fun _ _ _ h => h) (Or.inl ⟨by rfl, ?_⟩) (by assumption) ?_
              rotate_left
              · intro w hSw; (try dsimp only at hSw); go_split_ands; go_simp; with_reducible rfl
              change wpAnyH _ _ _ _ _ _ _ (Act.put _ (some 121) _) _
              simp only [Act.put, List.setIfInBounds_toArray, List.set_cons_zero, List.set_cons_succ, Array.toArray_toList]
              refine wpAnyH_ready (rs := [35]) (by kernel_rfl) (by simp) ?_
              refine (AllReadyH.cons rfl (fun K hK => ?_) AllReadyH.nil)
              go_simp
              (with_reducible refine (HS3.out _ _ _ Rq.out).mono ?_); rintro e wq ⟨rfl, rq⟩; have Rq := Lib.hid rq; clear rq
              go_wp2_with fail
              refine hK.out _ _ (by first | exact HKX.out _ _ _ Rq.out | exact HKY.out _ _ _ _ Rq.out) (fun hHeld => ?_)
              clear hK K
              refine wpAnyH_ready (rs := [38]) (by kernel_rfl) (by simp) ?_
              refine (AllReadyH.cons rfl (fun K hK => ?_) AllReadyH.nil)
              go_simp
              (with_reducible refine (HR3.out _ _ _ Rq.out (List.sublist_append_right _ _)).mono ?_); rintro e wq ⟨rfl, hb⟩; have Rq := Lib.hid (Rq.out.below hb); clear hb
              go_wp2_with fail
              refine hK.out _ _ (by first | exact HKX.out _ _ _ Rq.out | exact HKY.out _ _ _ _ Rq.out) (fun hHeld => ?_)
              clear hK K
              refine wpAnyH_take (i := 39) (v := ?_) rfl (by kernel_rfl) (by kernel_rfl) (by kernel_rfl) (fun _ _ _ h => h) (Or.inl ⟨by rfl, ?_⟩) (by assumption) ?_
              rotate_left
              · intro w hSw; (try dsimp only at hSw); go_split_ands; go_simp; with_reducible rfl
              change wpAnyH _ _ _ _ _ _ _ (Act.put _ (some 123) _) _
              simp only [Act.put, List.setIfInBounds_toArray, List.set_cons_zero, List.set_cons_succ, Array.toArray_toList]
              refine wpAnyH_take (i := 40) (v := ?_) rfl (by kernel_rfl) (by kernel_rfl) (by kernel_rfl) (fun _ _ _ h => h) (Or.inl ⟨by rfl, ?_⟩) (by assumption) ?_
              rotate_left
              · intro w hSw; (try dsimp only at hSw); go_split_ands; go_simp; with_reducible rfl
              change wpAnyH _ _ _ _ _ _ _ (Act.put _ (some 124) _) _
              simp only [Act.put, List.setIfInBounds_toArray, List.set_cons_zero, List.set_cons_succ, Array.toArray_toList]
              refine wpAnyH_take (i := 41) (v := ?_) rfl (by kernel_rfl) (by kernel_rfl) (by kernel_rfl) (fun _ _ _ h => h) (Or.inl ⟨by rfl, ?_⟩) (by assumption) ?_
              rotate_left
              · intro w hSw; (try dsimp only at hSw); go_split_ands; go_simp; with_reducible rfl
              change wpAnyH _ _ _ _ _ _ _ (Act.put _ (some 4) _) _
              simp only [Act.put, List.setIfInBounds_toArray, List.set_cons_zero, List.set_cons_succ, Array.toArray_toList]
              refine wpAnyH_done (by kernel_rfl) ?_ _
              go_wp2
              go_ret
              exact ⟨rfl, Rq.out.bel⟩
          · skip
            go_simp; generalize hwq : World.alloc _ _ = wq; have Rq := Lib.hid (Rq.out.rowE hwq); clear hwq
            refine hK.out _ _ (by first | exact HKX.out _ _ _ Rq.out | exact HKY.out _ _ _ _ Rq.out) (fun hHeld => ?_)
            clear hK K
            refine wpAnyH_ready (rs := [21]) (by kernel_rfl) (by simp) ?_
            refine (AllReadyH.cons rfl (fun K hK => ?_) AllReadyH.nil)
            go_simp
            (first | with_reducible refine (HADD.out _ _ _ _ Rq.out HSP.out).mono ?_ | with_reducible refine (HADD.out _ _ _ _ Rq.out (HSP.out.cr _)).mono ?_); rintro e wq ⟨rfl, rq⟩; have Rq := Lib.hid rq; clear rq
            go_wp2_with fail
            refine hK.out _ _ (by first | exact HKX.out _ _ _ Rq.out | exact HKY.out _ _ _ _ Rq.out) (fun hHeld => ?_)
            clear hK K
            refine wpAnyH_ready (rs := [22]) (by kernel_rfl) (by simp) ?_
            refine (AllReadyH.cons rfl (fun K hK => ?_) AllReadyH.nil)
            go_simp
            (with_reducible refine (HS2.out _ _ Rq.out).mono ?_); rintro e wq ⟨rfl, rq⟩; have Rq := Lib.hid rq; clear rq
            go_wp2_with fail
            refine hK.out _ _ (by first | exact HKX.out _ _ _ Rq.out | exact HKY.out _ _ _ _ Rq.out) (fun hHeld => ?_)
            clear hK K
            refine wpAnyH_ready (rs := [28]) (by kernel_rfl) (by simp) ?_
            refine (AllReadyH.cons rfl (fun K hK => ?_) AllReadyH.nil)
            (first | refine step_appX (by kernel_rfl) _ _ 26 rfl Rq.out el_u8c rfl A2 K0 c2 (by8 TK) rfl (HA3.out _ ((List.sublist_append_right _ _).cons _)) (by8_one _) B1.out B2.out ?_ | refine step_appX (by kernel_rfl) _ _ 26 rfl Rq.out.swap el_u8c rfl A2 K0 c2 (by8 TK) rfl (HA3.out _ ((List.sublist_append_right _ _).cons _)) (by8_one _) B1.out B2.out ?_); intro A8 c8 wq N1 X1 hn1 hx1 rq; have HN1 := Lib.hid hn1; have HX1 := Lib.hid hx1; have Rq := Lib.hid rq; clear hn1 hx1 rq
            refine hK.out _ _ (by first | exact HKX.out _ _ _ Rq.out | exact HKY.out _ _ _ _ Rq.out) (fun hHeld => ?_)
            clear hK K
            refine wpAnyH_ready (rs := [30]) (by kernel_rfl) (by simp) ?_
            refine (AllReadyH.cons rfl (fun K hK => ?_) AllReadyH.nil)
            refine step_appX (by kernel_rfl) _ _ 26 rfl Rq.out el_u8c rfl A2 TL c2 (by8 T) rfl (HA2.out _ ((List.sublist_append_right _ _).cons _)) (by8_one _) (B3.out _ HN1.out) (B4.out _ HN1.out) ?_; intro A9 c9 wq N2 X2 hn2 hx2 rq; have HN2 := Lib.hid hn2; have HX2 := Lib.hid (show X2 = by8 TK ++ by8 T by rw [hx2, HX1.out]; rfl); have Rq := Lib.hid rq; clear hn2 hx2 rq
            refine hK.out _ _ (by first | exact HKX.out _ _ _ Rq.out | exact HKY.out _ _ _ _ Rq.out) (fun hHeld => ?_)
            clear hK K
            refine wpAnyH_ready (rs := [31]) (by kernel_rfl) (by simp) ?_
            refine (AllReadyH.cons rfl (fun K hK => ?_) AllReadyH.nil)
            go_simp
            (with_reducible refine (HR2.out _ _ _ _ _ (Rq.out.mst.src (Rq.out.mst.rowSrc (List.mem_cons_self ..))) (B5.out _ _ HN1.out HN2.out) HX2.out).mono ?_); rintro e wq ⟨rfl, hb⟩; obtain ⟨y3, hr3, hRc3, r3⟩ := ((Rq.out.below hb).subl (List.Sublist.refl _) (.cons _ (.cons _ (.refl _)))).turnX HXB.out HRg.out; have Rq := Lib.hid r3; clear hb r3
            go_wp2_with fail
            refine hK.out _ _ (by first | exact HKX.out _ _ _ Rq.out | exact HKY.out _ _ _ _ Rq.out) (fun hHeld => ?_)
            clear hK K
            refine wpAnyH_take (i := 32) (v := ?_) rfl (by kernel_rfl) (by kernel_rfl) (by kernel_rfl) (fun _ _ _ h => h) (Or.inl ⟨by rfl, ?_⟩) (by assumption) ?_
            rotate_left
            · intro w hSw; (try dsimp only at hSw); go_split_ands; go_simp; with_reducible rfl
            change wpAnyH _ _ _ _ _ _ _ (Act.put _ (some 116) _) _
            simp only [Act.put, List.setIfInBounds_toArray, List.set_cons_zero, List.set_cons_succ, Array.toArray_toList]
            refine wpAnyH_take (i := 33) (v := ?_) rfl (by kernel_rfl) (by kernel_rfl) (by kernel_rfl) (fun _ _ _ h => h) (Or.inl ⟨by rfl, ?_⟩) (by assumption) ?_
            rotate_left
            · intro w hSw; (try dsimp only at hSw); go_split_ands; go_simp; with_reducible rfl
            change wpAnyH _ _ _ _ _ _ _ (Act.put _ (some 117) _) _
            simp only [Act.put, List.setIfInBounds_toArray, List.set_cons_zero, List.set_cons_succ, Array.toArray_toList]
            refine wpAnyH_take (i := 34) (v := ?_) rfl (by kernel_rfl) (by kernel_rfl) (by kernel_rfl) (fun _ _ _ h => h) (Or.inl ⟨by rfl, ?_⟩) (by assumption) ?_
            rotate_left
            · intro w hSw; (try dsimp only at hSw); go_split_ands; go_simp; with_reducible rfl
            change wpAnyH _ _ _ _ _ _ _ (Act.put _ (some 118) _) _
            simp only [Act.put, List.setIfInBounds_toArray, List.set_cons_zero, List.set_cons_succ, Array.toArray_toList]
            refine wpAnyH_take (i := 36) rfl (by kernel_rfl) (by kernel_rfl) (by kernel_rfl) (fun _ _ _ h => h) (yieldsIf_load_mid (by rfl) _ _ rfl _ _ rfl _ _ (fun w hw => hw) hu hd hki) (by assumption) ?_
            change wpAnyH _ _ _ _ _ _ _ (Act.put _ (some 120) _) _
            simp only [Act.put, List.setIfInBounds_toArray, List.set_cons_zero, List.set_cons_succ, Array.toArray_toList]
            refine wpAnyH_take (i := 37) (v := ?_) rfl (by kernel_rfl) (by kernel_rfl) (by kernel_rfl) (fun _ _ _ h => h) (Or.inl ⟨by rfl, ?_⟩) (by assumption) ?_
            rotate_left
            · intro w hSw; (try dsimp only at hSw); go_split_ands; go_simp; with_reducible rfl
            change wpAnyH _ _ _ _ _ _ _ (Act.put _ (some 121) _) _
            simp only [Act.put, List.setIfInBounds_toArray, List.set_cons_zero, List.set_cons_succ, Array.toArray_toList]
            refine wpAnyH_ready (rs := [35]) (by kernel_rfl) (by simp) ?_
            refine (AllReadyH.cons rfl (fun K hK => ?_) AllReadyH.nil)
            go_simp
            (with_reducible refine (HS3.out _ _ _ Rq.out).mono ?_); rintro e wq ⟨rfl, rq⟩; have Rq := Lib.hid rq; clear rq
            go_wp2_with fail
            refine hK.out _ _ (by first | exact HKX.out _ _ _ Rq.out | exact HKY.out _ _ _ _ Rq.out) (fun hHeld => ?_)
            clear hK K
            refine wpAnyH_ready (rs := [38]) (by kernel_rfl) (by simp) ?_
            refine (AllReadyH.cons rfl (fun K hK => ?_) AllReadyH.nil)
            go_simp
            (with_reducible refine (HR3.out _ _ _ Rq.out (List.sublist_append_right _ _)).mono ?_); rintro e wq ⟨rfl, hb⟩; have Rq := Lib.hid (Rq.out.below hb); clear hb
            go_wp2_with fail
            refine hK.out _ _ (by first | exact HKX.out _ _ _ Rq.out | exact HKY.out _ _ _ _ Rq.out) (fun hHeld => ?_)
            clear hK K
            refine wpAnyH_take (i := 39) (v := ?_) rfl (by kernel_rfl) (by kernel_rfl) (by kernel_rfl) (fun _ _ _ h => h) (Or.inl ⟨by rfl, ?_⟩) (by assumption) ?_
            rotate_left
            · intro w hSw; (try dsimp only at hSw); go_split_ands; go_simp; with_reducible rfl
            change wpAnyH _ _ _ _ _ _ _ (Act.put _ (some 123) _) _
            simp only [Act.put, List.setIfInBounds_toArray, List.set_cons_zero, List.set_cons_succ, Array.toArray_toList]
            refine wpAnyH_take (i := 40) (v := ?_) rfl (by kernel_rfl) (by kernel_rfl) (by kernel_rfl) (fun _ _ _ h => h) (Or.inl ⟨by rfl, ?_⟩) (by assumption) ?_
            rotate_left
            · intro w hSw; (try dsimp only at hSw); go_split_ands; go_simp; with_reducible rfl
            change wpAnyH _ _ _ _ _ _ _ (Act.put _ (some 124) _) _
            simp only [Act.put, List.setIfInBounds_toArray, List.set_cons_zero, List.set_cons_succ, Array.toArray_toList]
            refine wpAnyH_take (i := 41) (v := ?_) rfl (by kernel_rfl) (by kernel_rfl) (by kernel_rfl) (fun _ _ _ h => h) (Or.inl ⟨by rfl, ?_⟩) (by assumption) ?_
            rotate_left
            · intro w hSw; (try dsimp only at hSw); go_split_ands; go_simp; with_reducible rfl
            change wpAnyH _ _ _ _ _ _ _ (Act.put _ (some 4) _) _
            simp only [Act.put, List.setIfInBounds_toArray, List.set_cons_zero, List.set_cons_succ, Array.toArray_toList]
            refine wpAnyH_done (by kernel_rfl) ?_ _
            go_wp2
            go_ret
            exact ⟨rfl, Rq.out.bel⟩
        · skip
          go_simp; generalize hwq : World.alloc _ _ = wq; have Rq := Lib.hid (Rq.out.rowE hwq); clear hwq
          refine hK.out _ _ (by first | exact HKX.out _ _ _ Rq.out | exact HKY.out _ _ _ _ Rq.out) (fun hHeld => ?_)
          clear hK K
          refine wpAnyH_ready (rs := [20]) (by kernel_rfl) (by simp) ?_
          refine (AllReadyH.cons rfl (fun K hK => ?_) AllReadyH.nil)
          go_simp; generalize hwq : World.alloc _ _ = wq; obtain ⟨y1, rq, hsp⟩ := Rq.out.oneE HTL.out (HA2.out _ (by first | exact List.sublist_append_right _ _ | exact (List.sublist_append_right _ _).cons _)) hwq; have Rq := Lib.hid rq; have HSP := Lib.hid hsp; clear hwq rq hsp
          refine hK.out _ _ (by first | exact HKX.out _ _ _ Rq.out | exact HKY.out _ _ _ _ Rq.out) (fun hHeld => ?_)
          clear hK K
          refine wpAnyH_ready (rs := [21]) (by kernel_rfl) (by simp) ?_
          refine (AllReadyH.cons rfl (fun K hK => ?_) AllReadyH.nil)
          go_simp
          (first | with_reducible refine (HADD.out _ _ _ _ Rq.out HSP.out).mono ?_ | with_reducible refine (HADD.out _ _ _ _ Rq.out (HSP.out.cr _)).mono ?_); rintro e wq ⟨rfl, rq⟩; have Rq := Lib.hid rq; clear rq
          go_wp2_with fail
          refine hK.out _ _ (by first | exact HKX.out _ _ _ Rq.out | exact HKY.out _ _ _ _ Rq.out) (fun hHeld => ?_)
          clear hK K
          refine wpAnyH_ready (rs := [22]) (by kernel_rfl) (by simp) ?_
          refine (AllReadyH.cons rfl (fun K hK => ?_) AllReadyH.nil)
          go_simp
          (with_reducible refine (HS2.out _ _ Rq.out).mono ?_); rintro e wq ⟨rfl, rq⟩; have Rq := Lib.hid rq; clear rq
          go_wp2_with fail
          refine hK.out _ _ (by first | exact HKX.out _ _ _ Rq.out | exact HKY.out _ _ _ _ Rq.out) (fun hHeld => ?_)
          clear hK K
          refine wpAnyH_ready (rs := [28]) (by kernel_rfl) (by simp) ?_
          refine (AllReadyH.cons rfl (fun K hK => ?_) AllReadyH.nil)
          (first | refine step_appX (by kernel_rfl) _ _ 26 rfl Rq.out el_u8c rfl A2 K0 c2 (by8 TK) rfl (HA3.out _ ((List.sublist_append_right _ _).cons _)) (by8_one _) B1.out B2.out ?_ | refine step_appX (by kernel_rfl) _ _ 26 rfl Rq.out.swap el_u8c rfl A2 K0 c2 (by8 TK) rfl (HA3.out _ ((List.sublist_append_right _ _).cons _)) (by8_one _) B1.out B2.out ?_); intro A8 c8 wq N1 X1 hn1 hx1 rq; have HN1 := Lib.hid hn1; have HX1 := Lib.hid hx1; have Rq := Lib.hid rq; clear hn1 hx1 rq
          refine hK.out _ _ (by first | exact HKX.out _ _ _ Rq.out | exact HKY.out _ _ _ _ Rq.out) (fun hHeld => ?_)
          clear hK K
          refine wpAnyH_ready (rs := [30]) (by kernel_rfl) (by simp) ?_
          refine (AllReadyH.cons rfl (fun K hK => ?_) AllReadyH.nil)
          refine step_appX (by kernel_rfl) _ _ 26 rfl Rq.out el_u8c rfl A2 TL c2 (by8 T) rfl (HA2.out _ ((List.sublist_append_right _ _).cons _)) (by8_one _) (B3.out _ HN1.out) (B4.out _ HN1.out) ?_; intro A9 c9 wq N2 X2 hn2 hx2 rq; have HN2 := Lib.hid hn2; have HX2 := Lib.hid (show X2 = by8 TK ++ by8 T by rw [hx2, HX1.out]; rfl); have Rq := Lib.hid rq; clear hn2 hx2 rq
          refine hK.out _ _ (by first | exact HKX.out _ _ _ Rq.out | exact HKY.out _ _ _ _ Rq.out) (fun hHeld => ?_)
          clear hK K
          refine wpAnyH_ready (rs := [31]) (by kernel_rfl) (by simp) ?_
          refine (AllReadyH.cons rfl (fun K hK => ?_) AllReadyH.nil)
          go_simp
          (with_reducible refine (HR2.out _ _ _ _ _ (Rq.out.mst.src (Rq.out.mst.rowSrc (List.mem_cons_self ..))) (B5.out _ _ HN1.out HN2.out) HX2.out).mono ?_); rintro e wq ⟨rfl, hb⟩; obtain ⟨y3, hr3, hRc3, r3⟩ := ((Rq.out.below hb).subl (List.Sublist.refl _) (.cons _ (.cons _ (.refl _)))).turnX HXB.out HRg.out; have Rq := Lib.hid r3; clear hb r3
          go_wp2_with fail
          refine hK.out _ _ (by first | exact HKX.out _ _ _ Rq.out | exact HKY.out _ _ _ _ Rq.out) (fun hHeld => ?_)
          clear hK K
          refine wpAnyH_take (i := 32) (v := ?_) rfl (by kernel_rfl) (by kernel_rfl) (by kernel_rfl) (fun _ _ _ h => h) (Or.inl ⟨by rfl, ?_⟩) (by assumption) ?_
          rotate_left
          · intro w hSw; (try dsimp only at hSw); go_split_ands; go_simp; with_reducible rfl
          change wpAnyH _ _ _ _ _ _ _ (Act.put _ (some 116) _) _
          simp only [Act.put, List.setIfInBounds_toArray, List.set_cons_zero, List.set_cons_succ, Array.toArray_toList]
          refine wpAnyH_take (i := 33) (v := ?_) rfl (by kernel_rfl) (by kernel_rfl) (by kernel_rfl) (fun _ _ _ h => h) (Or.inl ⟨by rfl, ?_⟩) (by assumption) ?_
          rotate_left
          · intro w hSw; (try dsimp only at hSw); go_split_ands; go_simp; with_reducible rfl
          change wpAnyH _ _ _ _ _ _ _ (Act.put _ (some 117) _) _
          simp only [Act.put, List.setIfInBounds_toArray, List.set_cons_zero, List.set_cons_succ, Array.toArray_toList]
          refine wpAnyH_take (i := 34) (v := ?_) rfl (by kernel_rfl) (by kernel_rfl) (by kernel_rfl) (fun _ _ _ h => h) (Or.inl ⟨by rfl, ?_⟩) (by assumption) ?_
          rotate_left
          · intro w hSw; (try dsimp only at hSw); go_split_ands; go_simp; with_reducible rfl
          change wpAnyH _ _ _ _ _ _ _ (Act.put _ (some 118) _) _
          simp only [Act.put, List.setIfInBounds_toArray, List.set_cons_zero, List.set_cons_succ, Array.toArray_toList]
          refine wpAnyH_take (i := 36) rfl (by kernel_rfl) (by kernel_rfl) (by kernel_rfl) (fun _ _ _ h => h) (yieldsIf_load_mid (by rfl) _ _ rfl _ _ rfl _ _ (fun w hw => hw) hu hd hki) (by assumption) ?_
          change wpAnyH _ _ _ _ _ _ _ (Act.put _ (some 120) _) _
          simp only [Act.put, List.setIfInBounds_toArray, List.set_cons_zero, List.set_cons_succ, Array.toArray_toList]
          refine wpAnyH_take (i := 37) (v := ?_) rfl (by kernel_rfl) (by kernel_rfl) (by kernel_rfl) (fun _ _ _ h => h) (Or.inl ⟨by rfl, ?_⟩) (by assumption) ?_
          rotate_left
          · intro w hSw; (try dsimp only at hSw); go_split_ands; go_simp; with_reducible rfl
          change wpAnyH _ _ _ _ _ _ _ (Act.put _ (some 121) _) _
          simp only [Act.put, List.setIfInBounds_toArray, List.set_cons_zero, List.set_cons_succ, Array.toArray_toList]
          refine wpAnyH_ready (rs := [35]) (by kernel_rfl) (by simp) ?_
          refine (AllReadyH.cons rfl (fun K hK => ?_) AllReadyH.nil)
          go_simp
          (with_reducible refine (HS3.out _ _ _ Rq.out).mono ?_); rintro e wq ⟨rfl, rq⟩; have Rq := Lib.hid rq; clear rq
          go_wp2_with fail
          refine hK.out _ _ (by first | exact HKX.out _ _ _ Rq.out | exact HKY.out _ _ _ _ Rq.out) (fun hHeld => ?_)
          clear hK K
          refine wpAnyH_ready (rs := [38]) (by kernel_rfl) (by simp) ?_
          refine (AllReadyH.cons rfl (fun K hK => ?_) AllReadyH.nil)
          go_simp
          (with_reducible refine (HR3.out _ _ _ Rq.out (List.sublist_append_right _ _)).mono ?_); rintro e wq ⟨rfl, hb⟩; have Rq := Lib.hid (Rq.out.below hb); clear hb
          go_wp2_with fail
          refine hK.out _ _ (by first | exact HKX.out _ _ _ Rq.out | exact HKY.out _ _ _ _ Rq.out) (fun hHeld => ?_)
          clear hK K
          refine wpAnyH_take (i := 39) (v := ?_) rfl (by kernel_rfl) (by kernel_rfl) (by kernel_rfl) (fun _ _ _ h => h) (Or.inl ⟨by rfl, ?_⟩) (by assumption) ?_
          rotate_left
          · intro w hSw; (try dsimp only at hSw); go_split_ands; go_simp; with_reducible rfl
          change wpAnyH _ _ _ _ _ _ _ (Act.put _ (some 123) _) _
          simp only [Act.put, List.setIfInBounds_toArray, List.set_cons_zero, List.set_cons_succ, Array.toArray_toList]
          refine wpAnyH_take (i := 40) (v := ?_) rfl (by kernel_rfl) (by kernel_rfl) (by kernel_rfl) (fun _ _ _ h => h) (Or.inl ⟨by rfl, ?_⟩) (by assumption) ?_
          rotate_left
          · intro w hSw; (try dsimp only at hSw); go_split_ands; go_simp; with_reducible rfl
          change wpAnyH _ _ _ _ _ _ _ (Act.put _ (some 124) _) _
          simp only [Act.put, List.setIfInBounds_toArray, List.set_cons_zero, List.set_cons_succ, Array.toArray_toList]
          refine wpAnyH_take (i := 41) (v := ?_) rfl (by kernel_rfl) (by kernel_rfl) (by kernel_rfl) (fun _ _ _ h => h) (Or.inl ⟨by rfl, ?_⟩) (by assumption) ?_
          rotate_left
          · intro w hSw; (try dsimp only at hSw); go_split_ands; go_simp; with_reducible rfl
          change wpAnyH _ _ _ _ _ _ _ (Act.put _ (some 4) _) _
          simp only [Act.put, List.setIfInBounds_toArray, List.set_cons_zero, List.set_cons_succ, Array.toArray_toList]
          refine wpAnyH_done (by kernel_rfl) ?_ _
          go_wp2
          go_ret
          exact ⟨rfl, Rq.out.bel⟩

theorem contract_digestRunning (W : World) (v0 v1 : Value) (a0 : ∃ A c, ∃ rows : List Rw, v0 = .slice A rows.length c ∧ rows.length ≤ c ∧ c ≤ maxLen ∧ Rd W W.heap.size 1 A rows.length (rows.map Rw.v) ∧ ∀ x ∈ rows, x.ok .u8 W) (a1 : ∃ z, v1 = .int .i64 z ∧ in64 z) :
    Calls Try.prog 5 #[v0, v1] W fun e W' => e = .returned (.bool true) ∧ Below W.heap.size W W' := by
  obtain ⟨A, c, rows, rfl, h1, h2, h3, h4⟩ := a0
  obtain ⟨x, rfl, _⟩ := a1
  obtain ⟨ps, e1, e2, e3⟩ := rows_pt rows h4
  rw [← e1, ← e2] at h3
  rw [← e2] at h1 ⊢
  exact digestRunning_main W A c ps x h3 e3 (by unfold maxLen at h2; omega)
end Go.Proofs.Ythnaobolmgcclaa
