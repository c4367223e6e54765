/- The law PacketTags (printed by genptags.py). -/
import Derived.Test.YtnbemfceoianiaaPkD
import Derived.Test.YtnbemfceoianiaaPkA
import Derived.Test.YtnbemfceoianiaaPk9
import Derived.Test.YtnbemfceoianiaaPkE
import Derived.Test.YtnbemfceoianiaaOpen5
namespace Go.Proofs.Ytnbemfceoianiaa
set_option linter.unusedVariables false
set_option linter.unusedSimpArgs false
open Go.RowKit
theorem Bk.rangeL0 {w : World} {g : Nat} {t : TypeId} {cs : Array Value} (h : Bk w g t cs) : w.rangeAt g 0 cs.toList := fun j v hv => by rw [h.cell, Nat.zero_add]; simpa using hv
theorem chk_tag {p : Pk} (h : ¬ (p.k = 1 ∨ p.k = 2)) : chkP { p with T := Z32 } = chkP p := by
  unfold chkP
  by_cases h1 : p.k < 1 ∨ 14 < p.k
  · rw [if_pos h1, if_pos h1]
  · rw [if_neg h1, if_neg h1]
    have h3 : ¬ (p.k < 3) := by omega
    simp only [h3, false_and, if_false]
theorem chk_k {p : Pk} (h : chkP p = 0) : 1 ≤ p.k ∧ p.k ≤ 14 := (chkP_ok h).1
set_option maxRecDepth 100000 in
set_option maxHeartbeats 16000000 in
theorem packetTags_main (W : World) (p : Pk) (hT : p.T.length = 32) (hr : RB W W.heap.size p.A p.l) (hc : p.l.length ≤ p.cp) (hcm : p.cp ≤ 9223372036854775807) (A : Option Addr) (c : Nat) (l : List UInt8) (hk : RB W W.heap.size A l) (hkc : l.length ≤ c) (hkm : c ≤ 9223372036854775807) :
    Calls Try.prog 3 #[.agg (pkc p), .slice A l.length c] W fun e W' => e = .returned (.bool true) ∧ Below W.heap.size W W' := by
  have m1 := (Mst.start W).new 29 (pkc p)
  have M1 := Lib.hid m1
  obtain ⟨N, hN⟩ : ∃ N, (p.l.take 520).length = N := ⟨_, rfl⟩
  have HTO := Lib.hid (show ∀ w' bl ow, Mst W w' bl ow → _ from fun w' bl ow h => to14_any W w' bl ow h p hT (Src.old hr) hc hcm N hN)
  have HT := Lib.hid hT
  have hN5 : N ≤ 520 := by rw [← hN]; simp; omega
  have HNL := Lib.hid hN
  obtain ⟨M, hM⟩ : ∃ n, l.length = n := ⟨_, rfl⟩
  have hr2 := hk.cut 70
  obtain ⟨n, hn, n2, n1⟩ := cut_n M 70
  obtain ⟨l', hl'⟩ : ∃ l', l.take 70 = l' := ⟨_, rfl⟩
  have hln : l'.length = n := by rw [← hl', List.length_take]; omega
  rw [hl'] at hr2
  have hmin1 : min (M : Int) 70 = n := hn.symm
  have n4 : (0 : Int) ≤ n := by omega
  have n5 : (n : Int) ≤ c := by omega
  have HLN := Lib.hid hln
  have R1 := Lib.hid (show RB W W.heap.size A l' from hr2)
  rw [hM] at hkc ⊢
  obtain ⟨KT, hKT⟩ := rsum_ex
  have HKT := Lib.hid hKT
  have HMK := Lib.hid hKT.make
  have HNW := Lib.hid (show ∀ w' bl ow, Mst W w' bl ow → Calls Try.prog 7 #[.slice A n c] w' fun e w2 => ∃ gk A' c', e = .returned (.pointer (some ⟨gk, 0, none⟩)) ∧ Mst W w2 ((gk, 66, #[.slice A' n c']) :: bl) (⟨5, 1, .slice A' n c', n, by8 l'⟩ :: ow) from fun w' bl ow h => by
    have q := new_M W w' bl ow h A c l' (R1.out.keep h.bel) (by rw [HLN.out]; omega)
    rw [HLN.out] at q
    exact q)
  clear m1 hT hr hc hcm hN hk hkm hr2 hn hl' hln hM hKT
  go_enter Try.func3, Try.ntmps3
  have Mq := M1
  clear M1
  go_wp2_with (first | refine wpList_loadG (by first | rfl | kernel_rfl) _ _ rfl (W.heap.size) 0 rfl (pkc p) _ (pkc_whole (Mq.out.bk (W.heap.size, 29, pkc p) (by simp)).1) Try.underlying29 rfl (info_rpk HT.out) ?_)
  with_reducible refine (HTO.out _ _ _ Mq.out).mono ?_
  rintro r w1 ⟨Ab, cb, rfl, hm⟩
  obtain ⟨X, hX⟩ : ∃ X : Pk, { p with A := Ab, l := p.l.take 520, cp := cb } = X := ⟨_, rfl⟩
  rw [hX]
  have HTX := Lib.hid (show X.T.length = 32 from by rw [← hX]; exact HT.out)
  have HXL := Lib.hid (show X.l.length = N from by rw [← hX]; exact HNL.out)
  have hm2 : Mst W w1 [(W.heap.size, 29, pkc p)] [⟨5, 1, .slice X.A N X.cp, N, by8 X.l⟩] := by rw [← hX]; exact hm
  have Mq := Lib.hid hm2
  clear hm hm2 hX HTO
  go_upto_region 3 with (first | refine wpList_store_row rfl _ _ _ rfl w1.heap.size (pkc X) rfl rfl 33 _ (Bk.mk_ _ _ _) (info_pk HTX.out) (y41_k HTX.out) (pkc_one _) ?_)
  generalize hw2 : World.setRow _ _ _ = wn
  obtain ⟨g5, hg5⟩ : ∃ b, w1.heap.size = b := ⟨_, rfl⟩
  have hm := (Mst.setRow (bl := []) [] (Mq.out.new 33 Y41) (pkc X)).toVP hw2 rfl
  rw [hg5] at hm
  simp only [hg5]
  have Mq := Lib.hid hm
  clear hw2 hm hg5
  have HOF := Lib.hid (fun w' => of14_any w' X HTX.out)
  go_wp2_with (first | refine wpList_loadG (by first | rfl | kernel_rfl) _ _ rfl (g5) 0 rfl (pkc X) _ (pkc_whole (Mq.out.bk (g5, 33, pkc X) (by simp)).1) Try.underlying33 rfl (info_pk HTX.out) ?_)
  with_reducible refine (HOF.out _).mono ?_
  rintro r w3 ⟨rfl, hb⟩
  have Mq := Lib.hid (Mq.out.below hb)
  clear hb
  go_upto_region 4 with (first | refine wpList_store_row rfl _ _ _ rfl w3.heap.size (pkc X) rfl rfl 29 _ (Bk.mk_ _ _ _) (info_rpk HTX.out) (y41_k HTX.out) (pkc_one _) ?_)
  generalize hw2 : World.setRow _ _ _ = wn
  obtain ⟨g6, hg5⟩ : ∃ b, w3.heap.size = b := ⟨_, rfl⟩
  have hm := (Mst.setRow (bl := []) [] (Mq.out.new 29 Y41) (pkc X)).toVP hw2 rfl
  rw [hg5] at hm
  simp only [hg5]
  have Mq := Lib.hid hm
  clear hw2 hm hg5
  clear HOF
  go_wp2_with fail
  with_reducible refine (HNW.out _ _ _ Mq.out).mono ?_
  rintro r w4 ⟨gk, Ak, ck, rfl, hm⟩
  have Mq := Lib.hid hm
  clear hm HNW
  have HRB := Lib.hid (show ∀ w' bl ow', Mst W w' bl ow' → (⟨5, 1, .slice X.A N X.cp, N, by8 X.l⟩ : Ro) ∈ ow' → RB w' w'.heap.size X.A X.l from fun w' bl ow' h hm => by
    unfold RB
    rw [HXL.out]
    exact h.src (h.rowSrc hm))
  have HKW := Lib.hid (show ∀ w' bl ow', Mst W w' bl ow' → (gk, 66, #[Value.slice Ak n ck]) ∈ bl → (⟨5, 1, .slice Ak n ck, n, by8 l'⟩ : Ro) ∈ ow' → KeyW w' gk l' from fun w' bl ow' h hb hm => h.key hb HLN.out (h.rowSrc hm))
  have HKL := Lib.hid (show l'.length ≤ 100000 by rw [HLN.out]; omega)
  have HTN := Lib.hid (fun w' => tagged_nil X HTX.out w')
  have HHN := Lib.hid (fun w' => holds_nil X HTX.out w')
  have HKN := Lib.hid (fun w' => known14_any w')
  have HRC := Lib.hid (fun w' => rcheck14_any X HTX.out w')
  have HHK := Lib.hid (show ∀ w' bl ow', Mst W w' bl ow' → (gk, 66, #[Value.slice Ak n ck]) ∈ bl → (⟨5, 1, .slice Ak n ck, n, by8 l'⟩ : Ro) ∈ ow' → (⟨5, 1, .slice X.A N X.cp, N, by8 X.l⟩ : Ro) ∈ ow' → _ from fun w' bl ow' h hb hm hx => holds_any X HTX.out w' (HRB.out w' bl ow' h hx) gk l' (HKW.out w' bl ow' h hb hm) HKL.out)
  have HZ0 := Lib.hid (show Pk0.T.length = 32 from rfl)
  by_cases hpl : X.k = 1 ∨ X.k = 2
  · obtain ⟨C, hC⟩ : ∃ C, chkP X = C := ⟨_, rfl⟩
    rw [hC] at HRC
    clear hC
    rcases hpl with hk1 | hk1
    · have HK1 := Lib.hid hk1
      have hpl : X.k = 1 ∨ X.k = 2 := .inl hk1
      clear hk1
      by_cases hC0 : C = 0
      · subst hC0
        have HTA := Lib.hid (fun w' => tagged_plain X HTX.out hpl gk w')
        have hhf : holdP l' X = false := by unfold holdP; simp [hpl]
        rw [hhf] at HHK
        go_wp2_with (first | refine wpList_loadG (by first | rfl | kernel_rfl) _ _ rfl (g5) 0 rfl (pkc X) _ (pkc_whole (Mq.out.bk (g5, 33, pkc X) (by simp)).1) Try.underlying33 rfl (info_pk HTX.out) ?_)
        with_reducible refine (HTA.out _).mono ?_
        rintro r w5 ⟨rfl, hb⟩
        have Mq := Lib.hid (Mq.out.below hb)
        clear hb
        go_upto_region 6 with (first | refine wpList_store_row rfl _ _ _ rfl w5.heap.size (pkc Pk0) rfl rfl 33 _ (Bk.mk_ _ _ _) (info_pk HZ0.out) (y41_k HZ0.out) (pkc_one _) ?_)
        generalize hw2 : World.setRow _ _ _ = wn
        obtain ⟨g8, hg5⟩ : ∃ b, w5.heap.size = b := ⟨_, rfl⟩
        have hm := (Mst.setRow (bl := []) [] (Mq.out.new 33 Y41) (pkc Pk0)).toVP hw2 rfl
        rw [hg5] at hm
        simp only [hg5]
        have Mq := Lib.hid hm
        clear hw2 hm hg5
        go_wp2_with (first | refine wpList_loadG (by first | rfl | kernel_rfl) _ _ rfl (g5) 0 rfl (pkc X) _ (pkc_whole (Mq.out.bk (g5, 33, pkc X) (by simp)).1) Try.underlying33 rfl (info_pk HTX.out) ?_)
        with_reducible refine (HTN.out _).mono ?_
        rintro r w6 ⟨rfl, hb⟩
        have Mq := Lib.hid (Mq.out.below hb)
        clear hb
        go_upto_region 7 with (first | refine wpList_store_row rfl _ _ _ rfl w6.heap.size (pkc Pk0) rfl rfl 33 _ (Bk.mk_ _ _ _) (info_pk HZ0.out) (y41_k HZ0.out) (pkc_one _) ?_)
        generalize hw2 : World.setRow _ _ _ = wn
        obtain ⟨g10, hg5⟩ : ∃ b, w6.heap.size = b := ⟨_, rfl⟩
        have hm := (Mst.setRow (bl := []) [] (Mq.out.new 33 Y41) (pkc Pk0)).toVP hw2 rfl
        rw [hg5] at hm
        simp only [hg5]
        have Mq := Lib.hid hm
        clear hw2 hm hg5
        go_wp2_with fail
        with_reducible refine (HMK.out _).mono ?_
        rintro r w7 ⟨rfl, hb⟩
        have Mq := Lib.hid (Mq.out.below hb)
        clear hb
        go_upto_region 8 with (first | refine wpList_store_row rfl _ _ _ rfl w7.heap.size KT rfl rfl 45 _ (Bk.mk_ _ _ _) HKT.out.inf HKT.out.z72 HKT.out.one ?_)
        generalize hw2 : World.setRow _ _ _ = wn
        obtain ⟨g12, hg5⟩ : ∃ b, w7.heap.size = b := ⟨_, rfl⟩
        have hm := (Mst.setRow (bl := []) [] (Mq.out.new 45 Z72) KT).toVP hw2 rfl
        rw [hg5] at hm
        simp only [hg5]
        have Mq := Lib.hid hm
        clear hw2 hm hg5
        clear HTN HMK
        go_wp2_with (first | refine wpList_loadG (by first | rfl | kernel_rfl) _ _ rfl (g6) 0 rfl (pkc X) _ (pkc_whole (Mq.out.bk (g6, 29, pkc X) (by simp)).1) Try.underlying29 rfl (info_rpk HTX.out) ?_)
        with_reducible refine (HRC.out _).mono ?_
        rintro r w8 ⟨rfl, hb⟩
        have Mq := Lib.hid (Mq.out.below hb)
        clear hb
        obtain ⟨x0, x1, x2, x3, x4, x5, x6, x7, x8⟩ := pkc_cells (Mq.out.bk (g6, 29, pkc X) (by simp)).1
        clear x1 x2 x3 x4 x5 x6 x7 x8
        rw [HK1.out] at x0
        go_wp2_with (first | refine wpList_loadG (by first | rfl | kernel_rfl) _ _ rfl (g5) 0 rfl (pkc X) _ (pkc_whole (Mq.out.bk (g5, 33, pkc X) (by simp)).1) Try.underlying33 rfl (info_pk HTX.out) ?_)
        with_reducible refine (HHN.out _).mono ?_
        rintro r w9 ⟨rfl, hb⟩
        have Mq := Lib.hid (Mq.out.below hb)
        clear hb
        obtain ⟨x0, x1, x2, x3, x4, x5, x6, x7, x8⟩ := pkc_cells (Mq.out.bk (g6, 29, pkc X) (by simp)).1
        clear x1 x2 x3 x4 x5 x6 x7 x8
        rw [HK1.out] at x0
        clear HHN
        go_wp2_with (first | refine wpList_loadG (by first | rfl | kernel_rfl) _ _ rfl (g5) 0 rfl (pkc X) _ (pkc_whole (Mq.out.bk (g5, 33, pkc X) (by simp)).1) Try.underlying33 rfl (info_pk HTX.out) ?_)
        with_reducible refine (HHK.out _ _ _ Mq.out (by simp) (by simp) (by simp)).mono ?_
        rintro r w15 ⟨rfl, hb⟩
        have Mq := Lib.hid (Mq.out.below hb)
        clear hb
        obtain ⟨x0, x1, x2, x3, x4, x5, x6, x7, x8⟩ := pkc_cells (Mq.out.bk (g6, 29, pkc X) (by simp)).1
        clear x1 x2 x3 x4 x5 x6 x7 x8
        rw [HK1.out] at x0
        go_wp2_with fail
        with_reducible refine (HKN.out _).mono ?_
        rintro r w18 ⟨rfl, hb⟩
        have Mq := Lib.hid (Mq.out.below hb)
        clear hb
        go_wp2_with fail
        go_ret
        exact ⟨rfl, Mq.out.bel⟩
      · have hc1 : (C == 0) = false := by simpa using hC0
        have hc2 : (C != 0) = true := by simpa using hC0
        have HTA := Lib.hid (fun w' => tagged_plain X HTX.out hpl gk w')
        have hhf : holdP l' X = false := by unfold holdP; simp [hpl]
        rw [hhf] at HHK
        go_wp2_with (first | refine wpList_loadG (by first | rfl | kernel_rfl) _ _ rfl (g5) 0 rfl (pkc X) _ (pkc_whole (Mq.out.bk (g5, 33, pkc X) (by simp)).1) Try.underlying33 rfl (info_pk HTX.out) ?_)
        with_reducible refine (HTA.out _).mono ?_
        rintro r w5 ⟨rfl, hb⟩
        have Mq := Lib.hid (Mq.out.below hb)
        clear hb
        go_upto_region 6 with (first | refine wpList_store_row rfl _ _ _ rfl w5.heap.size (pkc Pk0) rfl rfl 33 _ (Bk.mk_ _ _ _) (info_pk HZ0.out) (y41_k HZ0.out) (pkc_one _) ?_)
        generalize hw2 : World.setRow _ _ _ = wn
        obtain ⟨g8, hg5⟩ : ∃ b, w5.heap.size = b := ⟨_, rfl⟩
        have hm := (Mst.setRow (bl := []) [] (Mq.out.new 33 Y41) (pkc Pk0)).toVP hw2 rfl
        rw [hg5] at hm
        simp only [hg5]
        have Mq := Lib.hid hm
        clear hw2 hm hg5
        go_wp2_with (first | refine wpList_loadG (by first | rfl | kernel_rfl) _ _ rfl (g5) 0 rfl (pkc X) _ (pkc_whole (Mq.out.bk (g5, 33, pkc X) (by simp)).1) Try.underlying33 rfl (info_pk HTX.out) ?_)
        with_reducible refine (HTN.out _).mono ?_
        rintro r w6 ⟨rfl, hb⟩
        have Mq := Lib.hid (Mq.out.below hb)
        clear hb
        go_upto_region 7 with (first | refine wpList_store_row rfl _ _ _ rfl w6.heap.size (pkc Pk0) rfl rfl 33 _ (Bk.mk_ _ _ _) (info_pk HZ0.out) (y41_k HZ0.out) (pkc_one _) ?_)
        generalize hw2 : World.setRow _ _ _ = wn
        obtain ⟨g10, hg5⟩ : ∃ b, w6.heap.size = b := ⟨_, rfl⟩
        have hm := (Mst.setRow (bl := []) [] (Mq.out.new 33 Y41) (pkc Pk0)).toVP hw2 rfl
        rw [hg5] at hm
        simp only [hg5]
        have Mq := Lib.hid hm
        clear hw2 hm hg5
        go_wp2_with fail
        with_reducible refine (HMK.out _).mono ?_
        rintro r w7 ⟨rfl, hb⟩
        have Mq := Lib.hid (Mq.out.below hb)
        clear hb
        go_upto_region 8 with (first | refine wpList_store_row rfl _ _ _ rfl w7.heap.size KT rfl rfl 45 _ (Bk.mk_ _ _ _) HKT.out.inf HKT.out.z72 HKT.out.one ?_)
        generalize hw2 : World.setRow _ _ _ = wn
        obtain ⟨g12, hg5⟩ : ∃ b, w7.heap.size = b := ⟨_, rfl⟩
        have hm := (Mst.setRow (bl := []) [] (Mq.out.new 45 Z72) KT).toVP hw2 rfl
        rw [hg5] at hm
        simp only [hg5]
        have Mq := Lib.hid hm
        clear hw2 hm hg5
        clear HTN HMK
        go_wp2_with (first | refine wpList_loadG (by first | rfl | kernel_rfl) _ _ rfl (g6) 0 rfl (pkc X) _ (pkc_whole (Mq.out.bk (g6, 29, pkc X) (by simp)).1) Try.underlying29 rfl (info_rpk HTX.out) ?_)
        with_reducible refine (HRC.out _).mono ?_
        rintro r w8 ⟨rfl, hb⟩
        have Mq := Lib.hid (Mq.out.below hb)
        clear hb
        obtain ⟨x0, x1, x2, x3, x4, x5, x6, x7, x8⟩ := pkc_cells (Mq.out.bk (g6, 29, pkc X) (by simp)).1
        clear x1 x2 x3 x4 x5 x6 x7 x8
        rw [HK1.out] at x0
        go_wp2_with (first | refine wpList_loadG (by first | rfl | kernel_rfl) _ _ rfl (g5) 0 rfl (pkc X) _ (pkc_whole (Mq.out.bk (g5, 33, pkc X) (by simp)).1) Try.underlying33 rfl (info_pk HTX.out) ?_)
        with_reducible refine (HHN.out _).mono ?_
        rintro r w9 ⟨rfl, hb⟩
        have Mq := Lib.hid (Mq.out.below hb)
        clear hb
        obtain ⟨x0, x1, x2, x3, x4, x5, x6, x7, x8⟩ := pkc_cells (Mq.out.bk (g6, 29, pkc X) (by simp)).1
        clear x1 x2 x3 x4 x5 x6 x7 x8
        rw [HK1.out] at x0
        clear HHN
        go_wp2_with (first | refine wpList_loadG (by first | rfl | kernel_rfl) _ _ rfl (g5) 0 rfl (pkc X) _ (pkc_whole (Mq.out.bk (g5, 33, pkc X) (by simp)).1) Try.underlying33 rfl (info_pk HTX.out) ?_)
        with_reducible refine (HHK.out _ _ _ Mq.out (by simp) (by simp) (by simp)).mono ?_
        rintro r w15 ⟨rfl, hb⟩
        have Mq := Lib.hid (Mq.out.below hb)
        clear hb
        obtain ⟨x0, x1, x2, x3, x4, x5, x6, x7, x8⟩ := pkc_cells (Mq.out.bk (g6, 29, pkc X) (by simp)).1
        clear x1 x2 x3 x4 x5 x6 x7 x8
        rw [HK1.out] at x0
        go_wp2_with fail
        with_reducible refine (HKN.out _).mono ?_
        rintro r w18 ⟨rfl, hb⟩
        have Mq := Lib.hid (Mq.out.below hb)
        clear hb
        go_wp2_with fail
        go_ret
        exact ⟨rfl, Mq.out.bel⟩
    · have HK1 := Lib.hid hk1
      have hpl : X.k = 1 ∨ X.k = 2 := .inr hk1
      clear hk1
      by_cases hC0 : C = 0
      · subst hC0
        have HTA := Lib.hid (fun w' => tagged_plain X HTX.out hpl gk w')
        have hhf : holdP l' X = false := by unfold holdP; simp [hpl]
        rw [hhf] at HHK
        go_wp2_with (first | refine wpList_loadG (by first | rfl | kernel_rfl) _ _ rfl (g5) 0 rfl (pkc X) _ (pkc_whole (Mq.out.bk (g5, 33, pkc X) (by simp)).1) Try.underlying33 rfl (info_pk HTX.out) ?_)
        with_reducible refine (HTA.out _).mono ?_
        rintro r w5 ⟨rfl, hb⟩
        have Mq := Lib.hid (Mq.out.below hb)
        clear hb
        go_upto_region 6 with (first | refine wpList_store_row rfl _ _ _ rfl w5.heap.size (pkc Pk0) rfl rfl 33 _ (Bk.mk_ _ _ _) (info_pk HZ0.out) (y41_k HZ0.out) (pkc_one _) ?_)
        generalize hw2 : World.setRow _ _ _ = wn
        obtain ⟨g8, hg5⟩ : ∃ b, w5.heap.size = b := ⟨_, rfl⟩
        have hm := (Mst.setRow (bl := []) [] (Mq.out.new 33 Y41) (pkc Pk0)).toVP hw2 rfl
        rw [hg5] at hm
        simp only [hg5]
        have Mq := Lib.hid hm
        clear hw2 hm hg5
        go_wp2_with (first | refine wpList_loadG (by first | rfl | kernel_rfl) _ _ rfl (g5) 0 rfl (pkc X) _ (pkc_whole (Mq.out.bk (g5, 33, pkc X) (by simp)).1) Try.underlying33 rfl (info_pk HTX.out) ?_)
        with_reducible refine (HTN.out _).mono ?_
        rintro r w6 ⟨rfl, hb⟩
        have Mq := Lib.hid (Mq.out.below hb)
        clear hb
        go_upto_region 7 with (first | refine wpList_store_row rfl _ _ _ rfl w6.heap.size (pkc Pk0) rfl rfl 33 _ (Bk.mk_ _ _ _) (info_pk HZ0.out) (y41_k HZ0.out) (pkc_one _) ?_)
        generalize hw2 : World.setRow _ _ _ = wn
        obtain ⟨g10, hg5⟩ : ∃ b, w6.heap.size = b := ⟨_, rfl⟩
        have hm := (Mst.setRow (bl := []) [] (Mq.out.new 33 Y41) (pkc Pk0)).toVP hw2 rfl
        rw [hg5] at hm
        simp only [hg5]
        have Mq := Lib.hid hm
        clear hw2 hm hg5
        go_wp2_with fail
        with_reducible refine (HMK.out _).mono ?_
        rintro r w7 ⟨rfl, hb⟩
        have Mq := Lib.hid (Mq.out.below hb)
        clear hb
        go_upto_region 8 with (first | refine wpList_store_row rfl _ _ _ rfl w7.heap.size KT rfl rfl 45 _ (Bk.mk_ _ _ _) HKT.out.inf HKT.out.z72 HKT.out.one ?_)
        generalize hw2 : World.setRow _ _ _ = wn
        obtain ⟨g12, hg5⟩ : ∃ b, w7.heap.size = b := ⟨_, rfl⟩
        have hm := (Mst.setRow (bl := []) [] (Mq.out.new 45 Z72) KT).toVP hw2 rfl
        rw [hg5] at hm
        simp only [hg5]
        have Mq := Lib.hid hm
        clear hw2 hm hg5
        clear HTN HMK
        go_wp2_with (first | refine wpList_loadG (by first | rfl | kernel_rfl) _ _ rfl (g6) 0 rfl (pkc X) _ (pkc_whole (Mq.out.bk (g6, 29, pkc X) (by simp)).1) Try.underlying29 rfl (info_rpk HTX.out) ?_)
        with_reducible refine (HRC.out _).mono ?_
        rintro r w8 ⟨rfl, hb⟩
        have Mq := Lib.hid (Mq.out.below hb)
        clear hb
        obtain ⟨x0, x1, x2, x3, x4, x5, x6, x7, x8⟩ := pkc_cells (Mq.out.bk (g6, 29, pkc X) (by simp)).1
        clear x1 x2 x3 x4 x5 x6 x7 x8
        rw [HK1.out] at x0
        go_wp2_with (first | refine wpList_loadG (by first | rfl | kernel_rfl) _ _ rfl (g5) 0 rfl (pkc X) _ (pkc_whole (Mq.out.bk (g5, 33, pkc X) (by simp)).1) Try.underlying33 rfl (info_pk HTX.out) ?_)
        with_reducible refine (HHN.out _).mono ?_
        rintro r w9 ⟨rfl, hb⟩
        have Mq := Lib.hid (Mq.out.below hb)
        clear hb
        obtain ⟨x0, x1, x2, x3, x4, x5, x6, x7, x8⟩ := pkc_cells (Mq.out.bk (g6, 29, pkc X) (by simp)).1
        clear x1 x2 x3 x4 x5 x6 x7 x8
        rw [HK1.out] at x0
        clear HHN
        go_wp2_with (first | refine wpList_loadG (by first | rfl | kernel_rfl) _ _ rfl (g5) 0 rfl (pkc X) _ (pkc_whole (Mq.out.bk (g5, 33, pkc X) (by simp)).1) Try.underlying33 rfl (info_pk HTX.out) ?_)
        with_reducible refine (HHK.out _ _ _ Mq.out (by simp) (by simp) (by simp)).mono ?_
        rintro r w15 ⟨rfl, hb⟩
        have Mq := Lib.hid (Mq.out.below hb)
        clear hb
        obtain ⟨x0, x1, x2, x3, x4, x5, x6, x7, x8⟩ := pkc_cells (Mq.out.bk (g6, 29, pkc X) (by simp)).1
        clear x1 x2 x3 x4 x5 x6 x7 x8
        rw [HK1.out] at x0
        go_wp2_with fail
        with_reducible refine (HKN.out _).mono ?_
        rintro r w18 ⟨rfl, hb⟩
        have Mq := Lib.hid (Mq.out.below hb)
        clear hb
        go_wp2_with fail
        go_ret
        exact ⟨rfl, Mq.out.bel⟩
      · have hc1 : (C == 0) = false := by simpa using hC0
        have hc2 : (C != 0) = true := by simpa using hC0
        have HTA := Lib.hid (fun w' => tagged_plain X HTX.out hpl gk w')
        have hhf : holdP l' X = false := by unfold holdP; simp [hpl]
        rw [hhf] at HHK
        go_wp2_with (first | refine wpList_loadG (by first | rfl | kernel_rfl) _ _ rfl (g5) 0 rfl (pkc X) _ (pkc_whole (Mq.out.bk (g5, 33, pkc X) (by simp)).1) Try.underlying33 rfl (info_pk HTX.out) ?_)
        with_reducible refine (HTA.out _).mono ?_
        rintro r w5 ⟨rfl, hb⟩
        have Mq := Lib.hid (Mq.out.below hb)
        clear hb
        go_upto_region 6 with (first | refine wpList_store_row rfl _ _ _ rfl w5.heap.size (pkc Pk0) rfl rfl 33 _ (Bk.mk_ _ _ _) (info_pk HZ0.out) (y41_k HZ0.out) (pkc_one _) ?_)
        generalize hw2 : World.setRow _ _ _ = wn
        obtain ⟨g8, hg5⟩ : ∃ b, w5.heap.size = b := ⟨_, rfl⟩
        have hm := (Mst.setRow (bl := []) [] (Mq.out.new 33 Y41) (pkc Pk0)).toVP hw2 rfl
        rw [hg5] at hm
        simp only [hg5]
        have Mq := Lib.hid hm
        clear hw2 hm hg5
        go_wp2_with (first | refine wpList_loadG (by first | rfl | kernel_rfl) _ _ rfl (g5) 0 rfl (pkc X) _ (pkc_whole (Mq.out.bk (g5, 33, pkc X) (by simp)).1) Try.underlying33 rfl (info_pk HTX.out) ?_)
        with_reducible refine (HTN.out _).mono ?_
        rintro r w6 ⟨rfl, hb⟩
        have Mq := Lib.hid (Mq.out.below hb)
        clear hb
        go_upto_region 7 with (first | refine wpList_store_row rfl _ _ _ rfl w6.heap.size (pkc Pk0) rfl rfl 33 _ (Bk.mk_ _ _ _) (info_pk HZ0.out) (y41_k HZ0.out) (pkc_one _) ?_)
        generalize hw2 : World.setRow _ _ _ = wn
        obtain ⟨g10, hg5⟩ : ∃ b, w6.heap.size = b := ⟨_, rfl⟩
        have hm := (Mst.setRow (bl := []) [] (Mq.out.new 33 Y41) (pkc Pk0)).toVP hw2 rfl
        rw [hg5] at hm
        simp only [hg5]
        have Mq := Lib.hid hm
        clear hw2 hm hg5
        go_wp2_with fail
        with_reducible refine (HMK.out _).mono ?_
        rintro r w7 ⟨rfl, hb⟩
        have Mq := Lib.hid (Mq.out.below hb)
        clear hb
        go_upto_region 8 with (first | refine wpList_store_row rfl _ _ _ rfl w7.heap.size KT rfl rfl 45 _ (Bk.mk_ _ _ _) HKT.out.inf HKT.out.z72 HKT.out.one ?_)
        generalize hw2 : World.setRow _ _ _ = wn
        obtain ⟨g12, hg5⟩ : ∃ b, w7.heap.size = b := ⟨_, rfl⟩
        have hm := (Mst.setRow (bl := []) [] (Mq.out.new 45 Z72) KT).toVP hw2 rfl
        rw [hg5] at hm
        simp only [hg5]
        have Mq := Lib.hid hm
        clear hw2 hm hg5
        clear HTN HMK
        go_wp2_with (first | refine wpList_loadG (by first | rfl | kernel_rfl) _ _ rfl (g6) 0 rfl (pkc X) _ (pkc_whole (Mq.out.bk (g6, 29, pkc X) (by simp)).1) Try.underlying29 rfl (info_rpk HTX.out) ?_)
        with_reducible refine (HRC.out _).mono ?_
        rintro r w8 ⟨rfl, hb⟩
        have Mq := Lib.hid (Mq.out.below hb)
        clear hb
        obtain ⟨x0, x1, x2, x3, x4, x5, x6, x7, x8⟩ := pkc_cells (Mq.out.bk (g6, 29, pkc X) (by simp)).1
        clear x1 x2 x3 x4 x5 x6 x7 x8
        rw [HK1.out] at x0
        go_wp2_with (first | refine wpList_loadG (by first | rfl | kernel_rfl) _ _ rfl (g5) 0 rfl (pkc X) _ (pkc_whole (Mq.out.bk (g5, 33, pkc X) (by simp)).1) Try.underlying33 rfl (info_pk HTX.out) ?_)
        with_reducible refine (HHN.out _).mono ?_
        rintro r w9 ⟨rfl, hb⟩
        have Mq := Lib.hid (Mq.out.below hb)
        clear hb
        obtain ⟨x0, x1, x2, x3, x4, x5, x6, x7, x8⟩ := pkc_cells (Mq.out.bk (g6, 29, pkc X) (by simp)).1
        clear x1 x2 x3 x4 x5 x6 x7 x8
        rw [HK1.out] at x0
        clear HHN
        go_wp2_with (first | refine wpList_loadG (by first | rfl | kernel_rfl) _ _ rfl (g5) 0 rfl (pkc X) _ (pkc_whole (Mq.out.bk (g5, 33, pkc X) (by simp)).1) Try.underlying33 rfl (info_pk HTX.out) ?_)
        with_reducible refine (HHK.out _ _ _ Mq.out (by simp) (by simp) (by simp)).mono ?_
        rintro r w15 ⟨rfl, hb⟩
        have Mq := Lib.hid (Mq.out.below hb)
        clear hb
        obtain ⟨x0, x1, x2, x3, x4, x5, x6, x7, x8⟩ := pkc_cells (Mq.out.bk (g6, 29, pkc X) (by simp)).1
        clear x1 x2 x3 x4 x5 x6 x7 x8
        rw [HK1.out] at x0
        go_wp2_with fail
        with_reducible refine (HKN.out _).mono ?_
        rintro r w18 ⟨rfl, hb⟩
        have Mq := Lib.hid (Mq.out.below hb)
        clear hb
        go_wp2_with fail
        go_ret
        exact ⟨rfl, Mq.out.bel⟩
  · have hkb1 : (X.k == 1) = false := by simp; omega
    have hkb2 : (X.k == 2) = false := by simp; omega
    obtain ⟨Y, hY⟩ : ∃ Y : Pk, { X with T := Z32 } = Y := ⟨_, rfl⟩
    have HZ := Lib.hid (show (Z32 : List UInt8).length = 32 from rfl)
    have HTY := Lib.hid (show Y.T.length = 32 by rw [← hY]; rfl)
    have HY := Lib.hid hY
    obtain ⟨C, hC⟩ : ∃ C, chkP X = C := ⟨_, rfl⟩
    have HC2 := (chk_tag hpl).trans hC
    rw [hC] at HRC
    by_cases hC0 : C = 0
    · subst hC0
      have hk14 := chk_k hC
      have hgt : 2 < X.k := by omega
      obtain ⟨Kt, hK⟩ : ∃ K, macT l' (hdB X) = K := ⟨_, rfl⟩
      have HTK := Lib.hid (show Kt.length = 32 by rw [← hK]; rfl)
      have HTA := Lib.hid (show ∀ w' bl ow', Mst W w' bl ow' → (gk, 66, #[Value.slice Ak n ck]) ∈ bl → (⟨5, 1, .slice Ak n ck, n, by8 l'⟩ : Ro) ∈ ow' → (⟨5, 1, .slice X.A N X.cp, N, by8 X.l⟩ : Ro) ∈ ow' → _ from fun w' bl ow' h hb hm hx => tagged_ok w' X HTX.out hpl HC2 (HRB.out w' bl ow' h hx) gk l' (HKW.out w' bl ow' h hb hm) HKL.out N HXL.out)
      rw [hK] at HTA
      have HRT := Lib.hid (show ∀ w' bl ow', Mst W w' bl ow' → (⟨5, 1, .slice X.A N X.cp, N, by8 X.l⟩ : Ro) ∈ ow' → _ from fun w' bl ow' h hx => rtag14_any KT HKT.out w' A c n l' HLN.out (R1.out.keep h.bel) HKL.out X HTX.out hC (HRB.out w' bl ow' h hx))
      rw [hK] at HRT
      have hhf : holdP l' X = decide (Kt = X.T) := by
        unfold holdP
        rw [decide_eq_false hpl, decide_eq_true HC2, hK]
        rfl
      obtain ⟨D, hD⟩ : ∃ D, decide (Kt = X.T) = D := ⟨_, rfl⟩
      rw [hhf, hD] at HHK
      have HEQ := Lib.hid (show ∀ w, (Op.equalIn 10000 27 (.agg (by8 Kt).toArray) (.agg (by8 X.T).toArray)).run Try.prog w = .ok D w from fun w => by rw [← hD]; exact equalInP 9998 Kt X.T HTK.out HTX.out w)
      clear hhf hD hk14
      go_wp2_with (first | refine wpList_loadG (by first | rfl | kernel_rfl) _ _ rfl (g5) 0 rfl (pkc X) _ (pkc_whole (Mq.out.bk (g5, 33, pkc X) (by simp)).1) Try.underlying33 rfl (info_pk HTX.out) ?_)
      with_reducible refine (HTA.out _ _ _ Mq.out (by simp) (by simp) (by simp)).mono ?_
      rintro r w5 ⟨A9, c9, rfl, hf⟩
      obtain ⟨Z, hZ⟩ : ∃ Z : Pk, { X with A := A9, cp := c9, T := Kt } = Z := ⟨_, rfl⟩
      rw [hZ]
      have HTZ := Lib.hid (show Z.T.length = 32 by rw [← hZ]; exact HTK.out)
      have HZ9 := Lib.hid hZ
      have Mq := Lib.hid (Mq.out.addr hf)
      clear hf hZ
      go_upto_region 6 with (first | refine wpList_store_row rfl _ _ _ rfl w5.heap.size (pkc Z) rfl rfl 33 _ (Bk.mk_ _ _ _) (info_pk HTZ.out) (y41_k HTZ.out) (pkc_one _) ?_)
      generalize hw2 : World.setRow _ _ _ = wn
      obtain ⟨g8, hg5⟩ : ∃ b, w5.heap.size = b := ⟨_, rfl⟩
      have hm := (Mst.setRow (bl := []) [] (Mq.out.new 33 Y41) (pkc Z)).toVP hw2 rfl
      rw [hg5] at hm
      simp only [hg5]
      have Mq := Lib.hid hm
      clear hw2 hm hg5
      go_wp2_with (first | refine wpList_loadG (by first | rfl | kernel_rfl) _ _ rfl (g5) 0 rfl (pkc X) _ (pkc_whole (Mq.out.bk (g5, 33, pkc X) (by simp)).1) Try.underlying33 rfl (info_pk HTX.out) ?_)
      with_reducible refine (HTN.out _).mono ?_
      rintro r w6 ⟨rfl, hb⟩
      have Mq := Lib.hid (Mq.out.below hb)
      clear hb
      go_upto_region 7 with (first | refine wpList_store_row rfl _ _ _ rfl w6.heap.size (pkc Pk0) rfl rfl 33 _ (Bk.mk_ _ _ _) (info_pk HZ0.out) (y41_k HZ0.out) (pkc_one _) ?_)
      generalize hw2 : World.setRow _ _ _ = wn
      obtain ⟨g10, hg5⟩ : ∃ b, w6.heap.size = b := ⟨_, rfl⟩
      have hm := (Mst.setRow (bl := []) [] (Mq.out.new 33 Y41) (pkc Pk0)).toVP hw2 rfl
      rw [hg5] at hm
      simp only [hg5]
      have Mq := Lib.hid hm
      clear hw2 hm hg5
      go_wp2_with fail
      with_reducible refine (HMK.out _).mono ?_
      rintro r w7 ⟨rfl, hb⟩
      have Mq := Lib.hid (Mq.out.below hb)
      clear hb
      go_upto_region 8 with (first | refine wpList_store_row rfl _ _ _ rfl w7.heap.size KT rfl rfl 45 _ (Bk.mk_ _ _ _) HKT.out.inf HKT.out.z72 HKT.out.one ?_)
      generalize hw2 : World.setRow _ _ _ = wn
      obtain ⟨g12, hg5⟩ : ∃ b, w7.heap.size = b := ⟨_, rfl⟩
      have hm := (Mst.setRow (bl := []) [] (Mq.out.new 45 Z72) KT).toVP hw2 rfl
      rw [hg5] at hm
      simp only [hg5]
      have Mq := Lib.hid hm
      clear hw2 hm hg5
      clear HTN HMK
      go_wp2_with (first | refine wpList_loadG (by first | rfl | kernel_rfl) _ _ rfl (g6) 0 rfl (pkc X) _ (pkc_whole (Mq.out.bk (g6, 29, pkc X) (by simp)).1) Try.underlying29 rfl (info_rpk HTX.out) ?_)
      with_reducible refine (HRC.out _).mono ?_
      rintro r w8 ⟨rfl, hb⟩
      have Mq := Lib.hid (Mq.out.below hb)
      clear hb
      obtain ⟨x0, x1, x2, x3, x4, x5, x6, x7, x8⟩ := pkc_cells (Mq.out.bk (g6, 29, pkc X) (by simp)).1
      clear x1 x2 x3 x4 x5 x6 x7 x8
      go_wp2_with (first | refine wpList_loadG (by first | rfl | kernel_rfl) _ _ rfl (g5) 0 rfl (pkc X) _ (pkc_whole (Mq.out.bk (g5, 33, pkc X) (by simp)).1) Try.underlying33 rfl (info_pk HTX.out) ?_)
      with_reducible refine (HHN.out _).mono ?_
      rintro r w9 ⟨rfl, hb⟩
      have Mq := Lib.hid (Mq.out.below hb)
      clear hb
      obtain ⟨x0, x1, x2, x3, x4, x5, x6, x7, x8⟩ := pkc_cells (Mq.out.bk (g6, 29, pkc X) (by simp)).1
      clear x1 x2 x3 x4 x5 x6 x7 x8
      clear HHN
      go_wp2_with (first | refine wpList_loadG (by first | rfl | kernel_rfl) _ _ rfl g12 0 rfl KT _ ((Mq.out.bk (g12, 45, KT) (by simp)).1.rangeL0) Try.underlying45 rfl HKT.out.inf ?_ | refine wpList_loadG (by first | rfl | kernel_rfl) _ _ rfl (g6) 0 rfl (pkc X) _ (pkc_whole (Mq.out.bk (g6, 29, pkc X) (by simp)).1) Try.underlying29 rfl (info_rpk HTX.out) ?_)
      with_reducible refine (HRT.out _ _ _ Mq.out (by simp)).mono ?_
      rintro r w12 ⟨rfl, hb⟩
      have Mq := Lib.hid (Mq.out.below hb)
      clear hb
      go_upto_region 13 with (first | refine wpList_store_row rfl _ _ _ rfl w12.heap.size (b8a Kt) rfl rfl 27 _ (Bk.mk_ _ _ _) (info_k HTK.out) (y32_k HTK.out) (b8a_one Kt) ?_)
      generalize hw2 : World.setRow _ _ _ = wn
      obtain ⟨g14, hg5⟩ : ∃ b, w12.heap.size = b := ⟨_, rfl⟩
      have hm := (Mst.setRow (bl := []) [] (Mq.out.new 27 Y32) (b8a Kt)).toVP hw2 rfl
      rw [hg5] at hm
      simp only [hg5]
      have Mq := Lib.hid hm
      clear hw2 hm hg5
      have HOC := Lib.hid (show ∀ w' bl' ow', Mst W w' bl' ow' → (g5, 33, pkc X) ∈ bl' → (g14, 27, b8a Kt) ∈ bl' → w'.rangeAt g5 0 (pkc X).toList ∧ w'.rangeAt g14 0 (by8 Kt) ∧ w'.rangeAt g5 9 (by8 X.T) from fun w' bl' ow' h h1 h2 => ⟨pkc_whole (h.bk _ h1).1, (h.bk _ h2).1.rangeL0, pkc_range (h.bk _ h1).1⟩)
      have K0 := Lib.hid (HOC.out _ _ _ Mq.out.drew (by simp) (by simp))
      have heq13 := HEQ.out
      have hnn13 : ∀ w, (binOp .neq 4 (.bool D) (.bool D)).run Try.prog w = .ok (.bool false) w := fun w => by cases D <;> rfl
      refine wp_region_held_drew (S := fun w' => w'.rangeAt g5 0 (pkc X).toList ∧ w'.rangeAt g14 0 (by8 Kt) ∧ w'.rangeAt g5 9 (by8 X.T)) (by kernel_rfl) ?_ (fun hHeld => ?_)
      · exact K0.out
      generalize hw7 : World.drew _ = w7 at hHeld ⊢; have Mq := Lib.hid (Mq.out.drew.toVP hw7 rfl); clear hw7
      refine wpAnyH_take (i := 0) rfl (by kernel_rfl) (by kernel_rfl) (by kernel_rfl) (fun _ _ _ h => h) (yieldsIf_load_mid (by rfl) _ _ rfl _ _ rfl _ _ (fun w hw => hw.1) Try.underlying33 rfl (by rw [Array.length_toList]; exact info_pk HTX.out)) (by assumption) ?_
      change wpAnyH _ _ _ _ _ _ _ (Act.put _ (some 58) _) _
      simp only [Act.put, List.setIfInBounds_toArray, List.set_cons_zero, List.set_cons_succ, Array.toArray_toList]
      refine wpAnyH_take (i := 1) (v := ?_) rfl (by kernel_rfl) (by kernel_rfl) (by kernel_rfl) (fun _ _ _ h => h) (Or.inl ⟨by rfl, ?_⟩) (by assumption) ?_
      rotate_left
      · intro w hSw; (try dsimp only at hSw); go_split_ands; go_simp; with_reducible rfl
      change wpAnyH _ _ _ _ _ _ _ (Act.put _ (some 59) _) _
      simp only [Act.put, List.setIfInBounds_toArray, List.set_cons_zero, List.set_cons_succ, Array.toArray_toList]
      refine wpAnyH_take (i := 3) rfl (by kernel_rfl) (by kernel_rfl) (by kernel_rfl) (fun _ _ _ h => h) (yieldsIf_load_mid (by rfl) _ _ rfl _ _ rfl _ _ (fun w hw => hw.2.1) Try.underlying27 rfl (info_tag HTK.out)) (by assumption) ?_
      change wpAnyH _ _ _ _ _ _ _ (Act.put _ (some 61) _) _
      simp only [Act.put, List.setIfInBounds_toArray, List.set_cons_zero, List.set_cons_succ, Array.toArray_toList]
      refine wpAnyH_take (i := 4) (v := ?_) rfl (by kernel_rfl) (by kernel_rfl) (by kernel_rfl) (fun _ _ _ h => h) (Or.inl ⟨by rfl, ?_⟩) (by assumption) ?_
      rotate_left
      · intro w hSw; (try dsimp only at hSw); go_split_ands; go_simp; with_reducible rfl
      change wpAnyH _ _ _ _ _ _ _ (Act.put _ (some 62) _) _
      simp only [Act.put, List.setIfInBounds_toArray, List.set_cons_zero, List.set_cons_succ, Array.toArray_toList]
      refine wpAnyH_take (i := 5) rfl (by kernel_rfl) (by kernel_rfl) (by kernel_rfl) (fun _ _ _ h => h) (yieldsIf_load_mid (by rfl) _ _ rfl _ _ rfl _ _ (fun w hw => hw.2.2) Try.underlying27 rfl (info_tag HTX.out)) (by assumption) ?_
      change wpAnyH _ _ _ _ _ _ _ (Act.put _ (some 63) _) _
      simp only [Act.put, List.setIfInBounds_toArray, List.set_cons_zero, List.set_cons_succ, Array.toArray_toList]
      refine wpAnyH_take (i := 6) (v := ?_) rfl (by kernel_rfl) (by kernel_rfl) (by kernel_rfl) (fun _ _ _ h => h) (Or.inl ⟨by rfl, ?_⟩) (by assumption) ?_
      rotate_left
      · intro w hSw; (try dsimp only at hSw); go_split_ands; go_simp; with_reducible rfl
      change wpAnyH _ _ _ _ _ _ _ (Act.put _ (some 64) _) _
      simp only [Act.put, List.setIfInBounds_toArray, List.set_cons_zero, List.set_cons_succ, Array.toArray_toList]
      refine wpAnyH_ready (rs := [2]) (by kernel_rfl) (by simp) ?_
      refine (AllReadyH.cons rfl (fun K hK => ?_) AllReadyH.nil)
      go_simp
      (with_reducible refine (HHK.out _ _ _ Mq.out (by simp) (by simp) (by simp)).mono ?_); rintro r wq ⟨rfl, hb⟩; have Mq := Lib.hid (Mq.out.below hb); clear hb
      go_wp2_with fail
      refine hK.out _ _ (by exact HOC.out _ _ _ Mq.out (by simp) (by simp)) (fun hHeld => ?_)
      clear hK K
      refine wpAnyH_take (i := 7) (v := ?_) rfl (by kernel_rfl) (by kernel_rfl) (by kernel_rfl) (fun _ _ _ h => h) (Or.inl ⟨by rfl, ?_⟩) (by assumption) ?_
      rotate_left
      · intro w hSw; (try dsimp only at hSw); go_split_ands; go_simp; with_reducible rfl
      change wpAnyH _ _ _ _ _ _ _ (Act.put _ (some 65) _) _
      simp only [Act.put, List.setIfInBounds_toArray, List.set_cons_zero, List.set_cons_succ, Array.toArray_toList]
      refine wpAnyH_done (by kernel_rfl) ?_ _
      have hC2Y : chkP Y = 0 := by rw [← HY.out]; exact HC2
      have HRC2 := Lib.hid (fun w' => rcheck14_any Y HTY.out w')
      rw [hC2Y] at HRC2
      have HRT2 := Lib.hid (show ∀ w' bl ow', Mst W w' bl ow' → (⟨5, 1, .slice X.A N X.cp, N, by8 X.l⟩ : Ro) ∈ ow' → _ from fun w' bl ow' h hx => rtag14_any KT HKT.out w' A c n l' HLN.out (R1.out.keep h.bel) HKL.out Y HTY.out hC2Y (by rw [← HY.out]; exact HRB.out w' bl ow' h hx))
      rw [show hdB Y = hdB X by rw [← HY.out]; rfl, hK] at HRT2
      clear HOC K0 heq13 hnn13 HEQ hHeld
      obtain ⟨x0, x1, x2, x3, x4, x5, x6, x7, x8⟩ := pkc_cells (Mq.out.bk (g6, 29, pkc X) (by simp)).1
      clear x1 x2 x3 x4 x5 x6 x7 x8
      go_upto_region 20 with (first | refine wpList_buildG (by first | rfl | kernel_rfl) _ rfl (.agg (b8a Z32)) (build_tag0 _) ?_ | refine wpList_store_mid rfl _ _ _ rfl g6 9 (b8a Z32) rfl rfl (Bk.thereP (Mq.out.bk (g6, 29, pkc X) (by simp)).1 9 _ (by rw [pkc_size HTX.out, b8a_size, HZ.out]; decide)) (info_tagA HZ.out) (b8a_one _) ?_)
      generalize hw2 : World.setCells _ _ _ _ = wn
      have mq := (Mst.putAt (by8 Z32) [_, _, _, _, _] Mq.out 9).toVP hw2 rfl
      rw [putAt_tag X Z32 HTX.out HZ.out, HY.out] at mq
      have Mq := Lib.hid mq
      clear hw2 mq x0
      go_wp2_with (first | refine wpList_loadG (by first | rfl | kernel_rfl) _ _ rfl (g6) 0 rfl (pkc Y) _ (pkc_whole (Mq.out.bk (g6, 29, pkc Y) (by simp)).1) Try.underlying29 rfl (info_rpk HTY.out) ?_)
      with_reducible refine (HRC2.out _).mono ?_
      rintro r w20 ⟨rfl, hb⟩
      have Mq := Lib.hid (Mq.out.below hb)
      clear hb
      go_wp2_with (first | refine wpList_loadG (by first | rfl | kernel_rfl) _ _ rfl g12 0 rfl KT _ ((Mq.out.bk (g12, 45, KT) (by simp)).1.rangeL0) Try.underlying45 rfl HKT.out.inf ?_ | refine wpList_loadG (by first | rfl | kernel_rfl) _ _ rfl (g6) 0 rfl (pkc Y) _ (pkc_whole (Mq.out.bk (g6, 29, pkc Y) (by simp)).1) Try.underlying29 rfl (info_rpk HTY.out) ?_)
      with_reducible refine (HRT2.out _ _ _ Mq.out (by simp)).mono ?_
      rintro r w22 ⟨rfl, hb⟩
      have Mq := Lib.hid (Mq.out.below hb)
      clear hb
      go_upto_region 23 with (first | refine wpList_store_row rfl _ _ _ rfl w22.heap.size (b8a Kt) rfl rfl 27 _ (Bk.mk_ _ _ _) (info_k HTK.out) (y32_k HTK.out) (b8a_one Kt) ?_)
      generalize hw2 : World.setRow _ _ _ = wn
      obtain ⟨g15, hg5⟩ : ∃ b, w22.heap.size = b := ⟨_, rfl⟩
      have hm := (Mst.setRow (bl := []) [] (Mq.out.new 27 Y32) (b8a Kt)).toVP hw2 rfl
      rw [hg5] at hm
      simp only [hg5]
      have Mq := Lib.hid hm
      clear hw2 hm hg5
      obtain ⟨V, hV⟩ : ∃ V : Pk, { Y with T := Kt } = V := ⟨_, rfl⟩
      have HTV := Lib.hid (show V.T.length = 32 by rw [← hV]; exact HTK.out)
      go_upto_region 24 with (first | refine wpList_loadG (by first | rfl | kernel_rfl) _ _ rfl g15 0 rfl (b8a Kt) _ ((Mq.out.bk (g15, 27, b8a Kt) (by simp)).1.rangeL0) Try.underlying27 rfl (info_tagA HTK.out) ?_ | refine wpList_store_mid rfl _ _ _ rfl g6 9 (b8a Kt) rfl rfl (Bk.thereP (Mq.out.bk (g6, 29, pkc Y) (by simp)).1 9 _ (by rw [pkc_size HTY.out, b8a_size, HTK.out]; decide)) (info_tagA HTK.out) (b8a_one _) ?_)
      generalize hw2 : World.setCells _ _ _ _ = wn
      have mq := (Mst.putAt (by8 Kt) [_, _, _, _, _, _] Mq.out 9).toVP hw2 rfl
      rw [putAt_tag Y Kt HTY.out HTK.out, hV] at mq
      have Mq := Lib.hid mq
      clear hw2 mq
      have HRZ := Lib.hid (show ∀ w' bl ow', Mst W w' bl ow' → (⟨5, 1, .slice A9 N c9, N, by8 X.l⟩ : Ro) ∈ ow' → RB w' w'.heap.size Z.A Z.l from fun w' bl ow' h hm => by
        rw [← HZ9.out]
        show Rd w' w'.heap.size 1 A9 X.l.length (by8 X.l)
        rw [HXL.out]
        exact h.src (h.rowSrc hm))
      have hzv : eqP Z V = true := by rw [← HZ9.out, ← hV, ← HY.out]; simp [eqP, eq4, eq2]
      have hzh : holdP l' Z = true := by
        rw [← HZ9.out]
        simp only [holdP, Bool.and_eq_true, Bool.not_eq_true', decide_eq_false_iff_not, decide_eq_true_eq]
        exact ⟨hpl, HC2, hK⟩
      have HOF2 := Lib.hid (fun w' => of14_any w' Z HTZ.out)
      have HSM := Lib.hid (show ∀ w' bl ow', Mst W w' bl ow' → (⟨5, 1, .slice A9 N c9, N, by8 X.l⟩ : Ro) ∈ ow' → (⟨5, 1, .slice X.A N X.cp, N, by8 X.l⟩ : Ro) ∈ ow' → Calls Try.prog 14 #[.agg (pkc Z), .agg (pkc V)] w' fun e w2 => e = .returned (.bool true) ∧ Below w'.heap.size w' w2 from fun w' bl ow' h hz hx => by
        have q := rsame14_any Z V HTZ.out HTV.out w' (HRZ.out w' bl ow' h hz) (by rw [← hV, ← HY.out]; exact HRB.out w' bl ow' h hx) (by rw [← HZ9.out]; show X.l.length ≤ _; rw [HXL.out]; omega)
        rw [hzv] at q
        exact q)
      have HHZ := Lib.hid (show ∀ w' bl ow', Mst W w' bl ow' → (gk, 66, #[Value.slice Ak n ck]) ∈ bl → (⟨5, 1, .slice Ak n ck, n, by8 l'⟩ : Ro) ∈ ow' → (⟨5, 1, .slice A9 N c9, N, by8 X.l⟩ : Ro) ∈ ow' → _ from fun w' bl ow' h hb hm hz => holds_any Z HTZ.out w' (HRZ.out w' bl ow' h hz) gk l' (HKW.out w' bl ow' h hb hm) HKL.out)
      rw [hzh] at HHZ
      have HOD := Lib.hid (show ∀ w' bl' ow', Mst W w' bl' ow' → (g8, 33, pkc Z) ∈ bl' → (g6, 29, pkc V) ∈ bl' → w'.rangeAt g8 0 (pkc Z).toList ∧ w'.rangeAt g6 0 (pkc V).toList from fun w' bl' ow' h h1 h2 => ⟨pkc_whole (h.bk _ h1).1, pkc_whole (h.bk _ h2).1⟩)
      have K1 := Lib.hid (HOD.out _ _ _ Mq.out.drew (by simp) (by simp))
      clear hzv hzh hV hpl hgt HC2 hC2Y hK hC
      refine wp_region_held_drew (S := fun w' => w'.rangeAt g8 0 (pkc Z).toList ∧ w'.rangeAt g6 0 (pkc V).toList) (by kernel_rfl) ?_ (fun hHeld => ?_)
      · exact K1.out
      generalize hw7 : World.drew _ = w7 at hHeld ⊢; have Mq := Lib.hid (Mq.out.drew.toVP hw7 rfl); clear hw7
      refine wpAnyH_ready (rs := [0]) (by kernel_rfl) (by simp) ?_
      refine (AllReadyH.cons rfl (fun K hK => ?_) AllReadyH.nil)
      go_simp
      (with_reducible refine (HKN.out _).mono ?_); rintro r wq ⟨rfl, hb⟩; have Mq := Lib.hid (Mq.out.below hb); clear hb
      go_wp2_with fail
      refine hK.out _ _ (by exact HOD.out _ _ _ Mq.out (by simp) (by simp)) (fun hHeld => ?_)
      clear hK K
      refine wpAnyH_take (i := 1) (v := ?_) rfl (by kernel_rfl) (by kernel_rfl) (by kernel_rfl) (fun _ _ _ h => h) (Or.inl ⟨by rfl, ?_⟩) (by assumption) ?_
      rotate_left
      · intro w hSw; (try dsimp only at hSw); go_split_ands; go_simp; with_reducible rfl
      change wpAnyH _ _ _ _ _ _ _ (Act.put _ (some 101) _) _
      simp only [Act.put, List.setIfInBounds_toArray, List.set_cons_zero, List.set_cons_succ, Array.toArray_toList]
      refine wpAnyH_take (i := 2) (v := ?_) rfl (by kernel_rfl) (by kernel_rfl) (by kernel_rfl) (fun _ _ _ h => h) (Or.inl ⟨by rfl, ?_⟩) (by assumption) ?_
      rotate_left
      · intro w hSw; (try dsimp only at hSw); go_split_ands; go_simp; with_reducible rfl
      change wpAnyH _ _ _ _ _ _ _ (Act.put _ (some 102) _) _
      simp only [Act.put, List.setIfInBounds_toArray, List.set_cons_zero, List.set_cons_succ, Array.toArray_toList]
      refine wpAnyH_take (i := 3) (v := ?_) rfl (by kernel_rfl) (by kernel_rfl) (by kernel_rfl) (fun _ _ _ h => h) (Or.inl ⟨by rfl, ?_⟩) (by assumption) ?_
      rotate_left
      · intro w hSw; (try dsimp only at hSw); go_split_ands; go_simp; with_reducible rfl
      change wpAnyH _ _ _ _ _ _ _ (Act.put _ (some 103) _) _
      simp only [Act.put, List.setIfInBounds_toArray, List.set_cons_zero, List.set_cons_succ, Array.toArray_toList]
      refine wpAnyH_take (i := 4) (v := ?_) rfl (by kernel_rfl) (by kernel_rfl) (by kernel_rfl) (fun _ _ _ h => h) (Or.inl ⟨by rfl, ?_⟩) (by assumption) ?_
      rotate_left
      · intro w hSw; (try dsimp only at hSw); go_split_ands; go_simp; with_reducible rfl
      change wpAnyH _ _ _ _ _ _ _ (Act.put _ (some 104) _) _
      simp only [Act.put, List.setIfInBounds_toArray, List.set_cons_zero, List.set_cons_succ, Array.toArray_toList]
      refine wpAnyH_take (i := 5) (v := ?_) rfl (by kernel_rfl) (by kernel_rfl) (by kernel_rfl) (fun _ _ _ h => h) (Or.inl ⟨by rfl, ?_⟩) (by assumption) ?_
      rotate_left
      · intro w hSw; (try dsimp only at hSw); go_split_ands; go_simp; with_reducible rfl
      change wpAnyH _ _ _ _ _ _ _ (Act.put _ (some 105) _) _
      simp only [Act.put, List.setIfInBounds_toArray, List.set_cons_zero, List.set_cons_succ, Array.toArray_toList]
      refine wpAnyH_take (i := 6) rfl (by kernel_rfl) (by kernel_rfl) (by kernel_rfl) (fun _ _ _ h => h) (yieldsIf_load_mid (by rfl) _ _ rfl _ _ rfl _ _ (fun w hw => hw.1) Try.underlying33 rfl (by rw [Array.length_toList]; exact info_pk HTZ.out)) (by assumption) ?_
      change wpAnyH _ _ _ _ _ _ _ (Act.put _ (some 106) _) _
      simp only [Act.put, List.setIfInBounds_toArray, List.set_cons_zero, List.set_cons_succ, Array.toArray_toList]
      refine wpAnyH_take (i := 8) rfl (by kernel_rfl) (by kernel_rfl) (by kernel_rfl) (fun _ _ _ h => h) (yieldsIf_load_mid (by rfl) _ _ rfl _ _ rfl _ _ (fun w hw => hw.2) Try.underlying29 rfl (by rw [Array.length_toList]; exact info_rpk HTV.out)) (by assumption) ?_
      change wpAnyH _ _ _ _ _ _ _ (Act.put _ (some 108) _) _
      simp only [Act.put, List.setIfInBounds_toArray, List.set_cons_zero, List.set_cons_succ, Array.toArray_toList]
      refine wpAnyH_ready (rs := [7]) (by kernel_rfl) (by simp) ?_
      refine (AllReadyH.cons rfl (fun K hK => ?_) AllReadyH.nil)
      go_simp
      (with_reducible refine (HOF2.out _).mono ?_); rintro r wq ⟨rfl, hb⟩; have Mq := Lib.hid (Mq.out.below hb); clear hb
      go_wp2_with fail
      refine hK.out _ _ (by exact HOD.out _ _ _ Mq.out (by simp) (by simp)) (fun hHeld => ?_)
      clear hK K
      refine wpAnyH_ready (rs := [9]) (by kernel_rfl) (by simp) ?_
      refine (AllReadyH.cons rfl (fun K hK => ?_) AllReadyH.nil)
      go_simp
      (with_reducible refine (HSM.out _ _ _ Mq.out (by simp) (by simp)).mono ?_); rintro r wq ⟨rfl, hb⟩; have Mq := Lib.hid (Mq.out.below hb); clear hb
      go_wp2_with fail
      refine hK.out _ _ (by exact HOD.out _ _ _ Mq.out (by simp) (by simp)) (fun hHeld => ?_)
      clear hK K
      refine wpAnyH_take (i := 10) (v := ?_) rfl (by kernel_rfl) (by kernel_rfl) (by kernel_rfl) (fun _ _ _ h => h) (Or.inl ⟨by rfl, ?_⟩) (by assumption) ?_
      rotate_left
      · intro w hSw; (try dsimp only at hSw); go_split_ands; go_simp; with_reducible rfl
      change wpAnyH _ _ _ _ _ _ _ (Act.put _ (some 110) _) _
      simp only [Act.put, List.setIfInBounds_toArray, List.set_cons_zero, List.set_cons_succ, Array.toArray_toList]
      refine wpAnyH_take (i := 11) (v := ?_) rfl (by kernel_rfl) (by kernel_rfl) (by kernel_rfl) (fun _ _ _ h => h) (Or.inl ⟨by rfl, ?_⟩) (by assumption) ?_
      rotate_left
      · intro w hSw; (try dsimp only at hSw); go_split_ands; go_simp; with_reducible rfl
      change wpAnyH _ _ _ _ _ _ _ (Act.put _ (some 111) _) _
      simp only [Act.put, List.setIfInBounds_toArray, List.set_cons_zero, List.set_cons_succ, Array.toArray_toList]
      refine wpAnyH_take (i := 12) rfl (by kernel_rfl) (by kernel_rfl) (by kernel_rfl) (fun _ _ _ h => h) (yieldsIf_load_mid (by rfl) _ _ rfl _ _ rfl _ _ (fun w hw => hw.1) Try.underlying33 rfl (by rw [Array.length_toList]; exact info_pk HTZ.out)) (by assumption) ?_
      change wpAnyH _ _ _ _ _ _ _ (Act.put _ (some 112) _) _
      simp only [Act.put, List.setIfInBounds_toArray, List.set_cons_zero, List.set_cons_succ, Array.toArray_toList]
      refine wpAnyH_take (i := 13) (v := ?_) rfl (by kernel_rfl) (by kernel_rfl) (by kernel_rfl) (fun _ _ _ h => h) (Or.inl ⟨by rfl, ?_⟩) (by assumption) ?_
      rotate_left
      · intro w hSw; (try dsimp only at hSw); go_split_ands; go_simp; with_reducible rfl
      change wpAnyH _ _ _ _ _ _ _ (Act.put _ (some 113) _) _
      simp only [Act.put, List.setIfInBounds_toArray, List.set_cons_zero, List.set_cons_succ, Array.toArray_toList]
      refine wpAnyH_ready (rs := [14]) (by kernel_rfl) (by simp) ?_
      refine (AllReadyH.cons rfl (fun K hK => ?_) AllReadyH.nil)
      go_simp
      (with_reducible refine (HHZ.out _ _ _ Mq.out (by simp) (by simp) (by simp)).mono ?_); rintro r wq ⟨rfl, hb⟩; have Mq := Lib.hid (Mq.out.below hb); clear hb
      go_wp2_with fail
      refine hK.out _ _ (by exact HOD.out _ _ _ Mq.out (by simp) (by simp)) (fun hHeld => ?_)
      clear hK K
      refine wpAnyH_take (i := 15) (v := ?_) rfl (by kernel_rfl) (by kernel_rfl) (by kernel_rfl) (fun _ _ _ h => h) (Or.inl ⟨by rfl, ?_⟩) (by assumption) ?_
      rotate_left
      · intro w hSw; (try dsimp only at hSw); go_split_ands; go_simp; with_reducible rfl
      change wpAnyH _ _ _ _ _ _ _ (Act.put _ (some 115) _) _
      simp only [Act.put, List.setIfInBounds_toArray, List.set_cons_zero, List.set_cons_succ, Array.toArray_toList]
      refine wpAnyH_take (i := 16) (v := ?_) rfl (by kernel_rfl) (by kernel_rfl) (by kernel_rfl) (fun _ _ _ h => h) (Or.inl ⟨by rfl, ?_⟩) (by assumption) ?_
      rotate_left
      · intro w hSw; (try dsimp only at hSw); go_split_ands; go_simp; with_reducible rfl
      change wpAnyH _ _ _ _ _ _ _ (Act.put _ (some 4) _) _
      simp only [Act.put, List.setIfInBounds_toArray, List.set_cons_zero, List.set_cons_succ, Array.toArray_toList]
      refine wpAnyH_done (by kernel_rfl) ?_ _
      go_wp2_with fail
      go_ret
      exact ⟨rfl, Mq.out.bel⟩
    · have hc1 : (C == 0) = false := by simpa using hC0
      have hc2 : (C != 0) = true := by simpa using hC0
      have hch : chkP { X with T := Z32 } ≠ 0 := by rw [HC2]; exact hC0
      have HTA := Lib.hid (show ∀ w', _ from fun w' => tagged_bad X HTX.out hpl hch gk w')
      rw [chk_tag hpl, hC] at HTA
      rw [hY] at HC2
      have hCC : (C == C) = true := by simp
      have HRC2 := Lib.hid (fun w' => rcheck14_any Y HTY.out w')
      rw [HC2] at HRC2
      have hhf : holdP l' X = false := by unfold holdP; simp [hch]
      rw [hhf] at HHK
      clear hC hch HC2 hpl
      go_wp2_with (first | refine wpList_loadG (by first | rfl | kernel_rfl) _ _ rfl (g5) 0 rfl (pkc X) _ (pkc_whole (Mq.out.bk (g5, 33, pkc X) (by simp)).1) Try.underlying33 rfl (info_pk HTX.out) ?_)
      with_reducible refine (HTA.out _).mono ?_
      rintro r w5 ⟨rfl, hb⟩
      have Mq := Lib.hid (Mq.out.below hb)
      clear hb
      go_upto_region 6 with (first | refine wpList_store_row rfl _ _ _ rfl w5.heap.size (pkc Pk0) rfl rfl 33 _ (Bk.mk_ _ _ _) (info_pk HZ0.out) (y41_k HZ0.out) (pkc_one _) ?_)
      generalize hw2 : World.setRow _ _ _ = wn
      obtain ⟨g8, hg5⟩ : ∃ b, w5.heap.size = b := ⟨_, rfl⟩
      have hm := (Mst.setRow (bl := []) [] (Mq.out.new 33 Y41) (pkc Pk0)).toVP hw2 rfl
      rw [hg5] at hm
      simp only [hg5]
      have Mq := Lib.hid hm
      clear hw2 hm hg5
      go_wp2_with (first | refine wpList_loadG (by first | rfl | kernel_rfl) _ _ rfl (g5) 0 rfl (pkc X) _ (pkc_whole (Mq.out.bk (g5, 33, pkc X) (by simp)).1) Try.underlying33 rfl (info_pk HTX.out) ?_)
      with_reducible refine (HTN.out _).mono ?_
      rintro r w6 ⟨rfl, hb⟩
      have Mq := Lib.hid (Mq.out.below hb)
      clear hb
      go_upto_region 7 with (first | refine wpList_store_row rfl _ _ _ rfl w6.heap.size (pkc Pk0) rfl rfl 33 _ (Bk.mk_ _ _ _) (info_pk HZ0.out) (y41_k HZ0.out) (pkc_one _) ?_)
      generalize hw2 : World.setRow _ _ _ = wn
      obtain ⟨g10, hg5⟩ : ∃ b, w6.heap.size = b := ⟨_, rfl⟩
      have hm := (Mst.setRow (bl := []) [] (Mq.out.new 33 Y41) (pkc Pk0)).toVP hw2 rfl
      rw [hg5] at hm
      simp only [hg5]
      have Mq := Lib.hid hm
      clear hw2 hm hg5
      go_wp2_with fail
      with_reducible refine (HMK.out _).mono ?_
      rintro r w7 ⟨rfl, hb⟩
      have Mq := Lib.hid (Mq.out.below hb)
      clear hb
      go_upto_region 8 with (first | refine wpList_store_row rfl _ _ _ rfl w7.heap.size KT rfl rfl 45 _ (Bk.mk_ _ _ _) HKT.out.inf HKT.out.z72 HKT.out.one ?_)
      generalize hw2 : World.setRow _ _ _ = wn
      obtain ⟨g12, hg5⟩ : ∃ b, w7.heap.size = b := ⟨_, rfl⟩
      have hm := (Mst.setRow (bl := []) [] (Mq.out.new 45 Z72) KT).toVP hw2 rfl
      rw [hg5] at hm
      simp only [hg5]
      have Mq := Lib.hid hm
      clear hw2 hm hg5
      clear HTN HMK
      go_wp2_with (first | refine wpList_loadG (by first | rfl | kernel_rfl) _ _ rfl (g6) 0 rfl (pkc X) _ (pkc_whole (Mq.out.bk (g6, 29, pkc X) (by simp)).1) Try.underlying29 rfl (info_rpk HTX.out) ?_)
      with_reducible refine (HRC.out _).mono ?_
      rintro r w8 ⟨rfl, hb⟩
      have Mq := Lib.hid (Mq.out.below hb)
      clear hb
      obtain ⟨x0, x1, x2, x3, x4, x5, x6, x7, x8⟩ := pkc_cells (Mq.out.bk (g6, 29, pkc X) (by simp)).1
      clear x1 x2 x3 x4 x5 x6 x7 x8
      go_wp2_with (first | refine wpList_loadG (by first | rfl | kernel_rfl) _ _ rfl (g5) 0 rfl (pkc X) _ (pkc_whole (Mq.out.bk (g5, 33, pkc X) (by simp)).1) Try.underlying33 rfl (info_pk HTX.out) ?_)
      with_reducible refine (HHN.out _).mono ?_
      rintro r w9 ⟨rfl, hb⟩
      have Mq := Lib.hid (Mq.out.below hb)
      clear hb
      obtain ⟨x0, x1, x2, x3, x4, x5, x6, x7, x8⟩ := pkc_cells (Mq.out.bk (g6, 29, pkc X) (by simp)).1
      clear x1 x2 x3 x4 x5 x6 x7 x8
      clear HHN
      go_wp2_with (first | refine wpList_loadG (by first | rfl | kernel_rfl) _ _ rfl (g5) 0 rfl (pkc X) _ (pkc_whole (Mq.out.bk (g5, 33, pkc X) (by simp)).1) Try.underlying33 rfl (info_pk HTX.out) ?_)
      with_reducible refine (HHK.out _ _ _ Mq.out (by simp) (by simp) (by simp)).mono ?_
      rintro r w15 ⟨rfl, hb⟩
      have Mq := Lib.hid (Mq.out.below hb)
      clear hb
      obtain ⟨x0, x1, x2, x3, x4, x5, x6, x7, x8⟩ := pkc_cells (Mq.out.bk (g6, 29, pkc X) (by simp)).1
      clear x1 x2 x3 x4 x5 x6 x7 x8
      go_upto_region 20 with (first | refine wpList_buildG (by first | rfl | kernel_rfl) _ rfl (.agg (b8a Z32)) (build_tag0 _) ?_ | refine wpList_store_mid rfl _ _ _ rfl g6 9 (b8a Z32) rfl rfl (Bk.thereP (Mq.out.bk (g6, 29, pkc X) (by simp)).1 9 _ (by rw [pkc_size HTX.out, b8a_size, HZ.out]; decide)) (info_tagA HZ.out) (b8a_one _) ?_)
      generalize hw2 : World.setCells _ _ _ _ = wn
      have mq := (Mst.putAt (by8 Z32) [_, _, _, _] Mq.out 9).toVP hw2 rfl
      rw [putAt_tag X Z32 HTX.out HZ.out, HY.out] at mq
      have Mq := Lib.hid mq
      clear hw2 mq x0
      go_wp2_with (first | refine wpList_loadG (by first | rfl | kernel_rfl) _ _ rfl (g6) 0 rfl (pkc Y) _ (pkc_whole (Mq.out.bk (g6, 29, pkc Y) (by simp)).1) Try.underlying29 rfl (info_rpk HTY.out) ?_)
      with_reducible refine (HRC2.out _).mono ?_
      rintro r w20 ⟨rfl, hb⟩
      have Mq := Lib.hid (Mq.out.below hb)
      clear hb
      go_wp2_with fail
      with_reducible refine (HKN.out _).mono ?_
      rintro r w18 ⟨rfl, hb⟩
      have Mq := Lib.hid (Mq.out.below hb)
      clear hb
      go_wp2_with (first | refine wpList_loadG (by first | rfl | kernel_rfl) _ _ rfl (g6) 0 rfl (pkc Y) _ (pkc_whole (Mq.out.bk (g6, 29, pkc Y) (by simp)).1) Try.underlying29 rfl (info_rpk HTY.out) ?_)
      with_reducible refine (HRC2.out _).mono ?_
      rintro r w21 ⟨rfl, hb⟩
      have Mq := Lib.hid (Mq.out.below hb)
      clear hb
      go_wp2_with fail
      go_ret
      exact ⟨rfl, Mq.out.bel⟩
theorem contract_packetTags (W : World) (v0 v1 : Value) (a0 : ∃ p : Pk, v0 = .agg (pkc p) ∧ p.T.length = 32 ∧ RB W W.heap.size p.A p.l ∧ p.l.length ≤ p.cp ∧ p.cp ≤ 9223372036854775807) (a1 : ∃ r : Rw, v1 = r.v ∧ r.ok .u8 W) :
    Calls Try.prog 3 #[v0, v1] W fun e W' => e = .returned (.bool true) ∧ Below W.heap.size W W' := by
  obtain ⟨p, rfl, hT, hr, hc, hcm⟩ := a0
  obtain ⟨q, rfl, hq⟩ := a1
  obtain ⟨l1, e1, g1, k1, k2⟩ := rw_pt hq
  rw [e1]
  exact packetTags_main W p hT hr hc hcm q.A q.c l1 g1 k1 k2
end Go.Proofs.Ytnbemfceoianiaa
