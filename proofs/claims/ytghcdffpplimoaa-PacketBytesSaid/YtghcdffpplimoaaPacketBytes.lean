/- The law PacketBytes (printed by genpbytes.py). -/
import Derived.Test.YtghcdffpplimoaaPkD
import Derived.Test.YtghcdffpplimoaaPkA
import Derived.Test.YtghcdffpplimoaaPk9
import Derived.Test.YtghcdffpplimoaaPk10
import Derived.Test.YtghcdffpplimoaaPkC
import Derived.Test.YtghcdffpplimoaaPkB
import Derived.Test.YtghcdffpplimoaaOpen5
namespace Go.Proofs.Ytghcdffpplimoaa
set_option linter.unusedVariables false
set_option linter.unusedSimpArgs false
open Go.RowKit
set_option maxRecDepth 100000 in
set_option maxHeartbeats 16000000 in
theorem packetBytes_main (W : World) (p : Pk) (hT : p.T.length = 32) (hr : RB W W.heap.size p.A p.l) (hc : p.l.length ≤ p.cp) (hcm : p.cp ≤ 9223372036854775807) (n : Int) (hn : -9223372036854775808 ≤ n ∧ n ≤ 9223372036854775807) :
    Calls Try.prog 3 #[.agg (pkc p), .int .i64 n] W fun e W' => e = .returned (.bool true) ∧ Below W.heap.size W W' := by
  have m1 := (Mst.start W).new 29 (pkc p)
  have M1 := Lib.hid m1
  obtain ⟨N, hN⟩ : ∃ N, (p.l.take 520).length = N := ⟨_, rfl⟩
  have HTO := Lib.hid (show ∀ w' bl ow, Mst W w' bl ow → _ from fun w' bl ow h => to14_any W w' bl ow h p hT (Src.old hr) hc hcm N hN)
  have HT := Lib.hid hT
  have hN5 : N ≤ 520 := by rw [← hN]; simp; omega
  have HSZ0 := Lib.hid (fun w' => psize_any n w' hn)
  have HNL := Lib.hid hN
  clear m1 hT hr hc hcm hN
  go_enter Try.func3, Try.ntmps3
  have Mq := M1
  clear M1
  go_wp2_with (first | refine wpList_loadG (by first | rfl | kernel_rfl) _ _ rfl (W.heap.size) 0 rfl (pkc p) _ (pkc_whole (Mq.out.bk (W.heap.size, 29, pkc p) (by simp)).1) Try.underlying29 rfl (info_rpk HT.out) ?_)
  with_reducible refine (HTO.out _ _ _ Mq.out).mono ?_
  rintro r w1 ⟨Ab, cb, rfl, hm⟩
  obtain ⟨X, hX⟩ : ∃ X : Pk, { p with A := Ab, l := p.l.take 520, cp := cb } = X := ⟨_, rfl⟩
  rw [hX]
  have HTX := Lib.hid (show X.T.length = 32 from by rw [← hX]; exact HT.out)
  have HXL := Lib.hid (show X.l.length = N from by rw [← hX]; exact HNL.out)
  have hm2 : Mst W w1 [(W.heap.size, 29, pkc p)] [⟨5, 1, .slice X.A N X.cp, N, by8 X.l⟩] := by rw [← hX]; exact hm
  have Mq := Lib.hid hm2
  clear hm hm2 hX HTO
  go_upto_region 2 with (first | refine wpList_store_row rfl _ _ _ rfl w1.heap.size (pkc X) rfl rfl 33 _ (Bk.mk_ _ _ _) (info_pk HTX.out) (y41_k HTX.out) (pkc_one _) ?_)
  generalize hw2 : World.setRow _ _ _ = w2
  obtain ⟨g5, hg5⟩ : ∃ b, w1.heap.size = b := ⟨_, rfl⟩
  have hm := (Mst.setRow (bl := []) [] (Mq.out.new 33 Y41) (pkc X)).toVP hw2 rfl
  rw [hg5] at hm
  simp only [hg5]
  have Mq := Lib.hid hm
  clear hw2 hm hg5
  have HOF := Lib.hid (fun w' => of14_any w' X HTX.out)
  go_wp2_with (first | refine wpList_loadG (by first | rfl | kernel_rfl) _ _ rfl g5 0 rfl (pkc X) _ (pkc_whole (Mq.out.bk (g5, 33, pkc X) (by simp)).1) Try.underlying33 rfl (info_pk HTX.out) ?_)
  with_reducible refine (HOF.out _).mono ?_
  rintro r w3 ⟨rfl, hb⟩
  have Mq := Lib.hid (Mq.out.below hb)
  clear hb HOF
  go_upto_region 3 with (first | refine wpList_store_row rfl _ _ _ rfl w3.heap.size (pkc X) rfl rfl 29 _ (Bk.mk_ _ _ _) (info_rpk HTX.out) (y41_k HTX.out) (pkc_one _) ?_)
  generalize hw4 : World.setRow _ _ _ = w4
  obtain ⟨g6, hg6⟩ : ∃ b, w3.heap.size = b := ⟨_, rfl⟩
  have hm := (Mst.setRow (bl := []) [] (Mq.out.new 29 Y41) (pkc X)).toVP hw4 rfl
  rw [hg6] at hm
  simp only [hg6]
  have Mq := Lib.hid hm
  clear hw4 hm hg6
  have HRB := Lib.hid (show ∀ w' bl ow', Mst W w' bl ow' → (⟨5, 1, .slice X.A N X.cp, N, by8 X.l⟩ : Ro) ∈ ow' → RB w' w'.heap.size X.A X.l from fun w' bl ow' h hm => by
    unfold RB
    rw [HXL.out]
    exact h.src (h.rowSrc hm))
  have HCK := Lib.hid (fun w' => pcheck_any X HTX.out w')
  have HRC := Lib.hid (fun w' => rcheck14_any X HTX.out w')
  have HSM := Lib.hid (show ∀ w' bl ow', Mst W w' bl ow' → (⟨5, 1, .slice X.A N X.cp, N, by8 X.l⟩ : Ro) ∈ ow' → Calls Try.prog 17 #[.agg (pkc X), .agg (pkc X)] w' fun e w2 => e = .returned (.bool true) ∧ Below w'.heap.size w' w2 from fun w' bl ow' h hm => by
    have q := psame_any X X HTX.out HTX.out w' (HRB.out w' bl ow' h hm) (HRB.out w' bl ow' h hm) (by rw [HXL.out]; omega)
    rw [eqP_same] at q
    exact q)
  have HKN := Lib.hid (fun w' => known14_any w')
  have hnn : (n < 0 ∧ Hid ((if 0 ≤ n ∧ n ≤ 512 then n + 52 else 0) = 0)) ∨ (0 ≤ n ∧ n ≤ 512 ∧ Hid ((if 0 ≤ n ∧ n ≤ 512 then n + 52 else 0) = n + 52)) ∨ (0 ≤ n ∧ 512 < n ∧ Hid ((if 0 ≤ n ∧ n ≤ 512 then n + 52 else 0) = 0)) := by
    by_cases h1 : n < 0
    · exact .inl ⟨h1, Lib.hid (if_neg (by omega))⟩
    · by_cases h2 : n ≤ 512
      · exact .inr (.inl ⟨by omega, h2, Lib.hid (if_pos (by omega))⟩)
      · exact .inr (.inr ⟨by omega, by omega, Lib.hid (if_neg (by omega))⟩)
  clear hn
  by_cases hch : chkP X = 0
  · skip
    have hl5 := (chkP_ok hch).2.2.2.2.1
    rw [HXL.out] at hl5
    have HBO := Lib.hid (show ∀ w' bl ow', Mst W w' bl ow' → (⟨5, 1, .slice X.A N X.cp, N, by8 X.l⟩ : Ro) ∈ ow' → _ from fun w' bl ow' h hm => pbytes_ok X HTX.out w' hch (HRB.out w' bl ow' h hm))
    have HHO := Lib.hid (show ∀ w' bl ow', Mst W w' bl ow' → (⟨5, 1, .slice X.A N X.cp, N, by8 X.l⟩ : Ro) ∈ ow' → _ from fun w' bl ow' h hm => head_ok X HTX.out w' hch (HRB.out w' bl ow' h hm))
    have HRO := Lib.hid (show ∀ w' bl ow', Mst W w' bl ow' → (⟨5, 1, .slice X.A N X.cp, N, by8 X.l⟩ : Ro) ∈ ow' → _ from fun w' bl ow' h hm => rbytes14_ok X HTX.out w' hch (HRB.out w' bl ow' h hm))
    have HRH := Lib.hid (show ∀ w' bl ow', Mst W w' bl ow' → (⟨5, 1, .slice X.A N X.cp, N, by8 X.l⟩ : Ro) ∈ ow' → _ from fun w' bl ow' h hm => rhead_ok X HTX.out w' hch (HRB.out w' bl ow' h hm))
    rw [HXL.out] at HRO HRH
    have HBK := Lib.hid (fun A c => parse_back HTX.out hch A c)
    have HLB := Lib.hid (show (hdB X ++ X.T).length = 52 + N from by rw [List.length_append, hdB_len, HXL.out, HTX.out]; omega)
    have HLH := Lib.hid (show (hdB X).length = 20 + N from by rw [hdB_len, HXL.out])
    rw [hch] at HCK HRC
    obtain ⟨B, hB⟩ : ∃ B, hdB X ++ X.T = B := ⟨_, rfl⟩
    obtain ⟨H, hH⟩ : ∃ H, hdB X = H := ⟨_, rfl⟩
    rw [hB] at HBO HRO HBK HLB
    rw [hH] at HHO HRH HLH
    have HPA := Lib.hid (show ∀ w' A c, RB w' w'.heap.size A B → Calls Try.prog 20 #[.slice A (52 + N) c] w' fun e w2 => ∃ A' c', e = .returned (.tuple #[.agg (pkc { X with A := A', cp := c' }), .int .i64 0]) ∧ Below w'.heap.size w' w2 ∧ RB w2 w2.heap.size A' X.l from fun w' A c h => by
      refine (parse14_any w' A c (52 + N) B HLB.out h (by omega)).mono ?_
      rintro e w2 ⟨hb, h | h⟩
      · obtain ⟨_, A', c', rfl, hrb⟩ := h
        have hk := (HBK.out A' c').2
        refine ⟨A', c', by rw [hk], hb, ?_⟩
        have hx := congrArg Pk.l hk
        simp only [pkR] at hx
        rw [hx] at hrb
        exact hrb
      · exact absurd (HBK.out none 0).1 h.1)
    have HS1 := Lib.hid (show ∀ w' A1 c1 A2 c2, RB w' w'.heap.size A1 B → RB w' w'.heap.size A2 B → Calls Try.prog 21 #[.slice A1 (52 + N) c1, .slice A2 (52 + N) c2] w' fun e w2 => e = .returned (.bool true) ∧ Below w'.heap.size w' w2 from fun w' A1 c1 A2 c2 h1 h2 => by
      have q := same_yes A1 A2 c1 c2 B w' h1 h2 (by rw [HLB.out]; unfold maxLen; omega)
      rw [HLB.out] at q
      exact q)
    have HS2 := Lib.hid (show ∀ w' A1 c1 A2 c2, RB w' w'.heap.size A1 H → RB w' w'.heap.size A2 H → Calls Try.prog 21 #[.slice A1 (20 + N) c1, .slice A2 (20 + N) c2] w' fun e w2 => e = .returned (.bool true) ∧ Below w'.heap.size w' w2 from fun w' A1 c1 A2 c2 h1 h2 => by
      have q := same_yes A1 A2 c1 c2 H w' h1 h2 (by rw [HLH.out]; unfold maxLen; omega)
      rw [HLH.out] at q
      exact q)
    have HSN := Lib.hid (show ∀ w', Calls Try.prog 18 #[.int .i64 (N : Int)] w' fun e w2 => e = .returned (.int .i64 ((N : Int) + 52)) ∧ w2 = w' from fun w' => by
      have q := psize_any (N : Int) w' (by omega)
      rw [if_pos (by omega)] at q
      exact q)
    have HZZ := Lib.hid (show ∀ w' bl ow' A c, Mst W w' bl ow' → (⟨5, 1, .slice X.A N X.cp, N, by8 X.l⟩ : Ro) ∈ ow' → RB w' w'.heap.size A X.l → Calls Try.prog 17 #[.agg (pkc { X with A := A, cp := c }), .agg (pkc X)] w' fun e w2 => e = .returned (.bool true) ∧ Below w'.heap.size w' w2 from fun w' bl ow' A c h hm hr => by
      have q := psame_any { X with A := A, cp := c } X HTX.out HTX.out w' hr (HRB.out w' bl ow' h hm) (by show X.l.length ≤ _; rw [HXL.out]; omega)
      rw [show eqP { X with A := A, cp := c } X = true from eqP_same X] at q
      exact q)
    have HBN := Lib.hid hl5
    clear hB hH hch HBK
    go_wp2_with (first | refine wpList_loadG (by first | rfl | kernel_rfl) _ _ rfl g5 0 rfl (pkc X) _ (pkc_whole (Mq.out.bk (g5, 33, pkc X) (by simp)).1) Try.underlying33 rfl (info_pk HTX.out) ?_)
    with_reducible refine (HBO.out _ _ _ Mq.out (by simp)).mono ?_
    rintro r wq ⟨v, rfl, hf, hb⟩
    obtain ⟨A7, c7, rfl, hrb, -⟩ := hf.rb
    rw [HLB.out]
    have R7 := Lib.hid hrb
    have Mq := Lib.hid (Mq.out.below hb)
    clear hb hf hrb HBO
    go_wp2_with (first | refine wpList_loadG (by first | rfl | kernel_rfl) _ _ rfl g5 0 rfl (pkc X) _ (pkc_whole (Mq.out.bk (g5, 33, pkc X) (by simp)).1) Try.underlying33 rfl (info_pk HTX.out) ?_)
    with_reducible refine (HHO.out _ _ _ Mq.out (by simp)).mono ?_
    rintro r wq ⟨v, rfl, hf, hb⟩
    obtain ⟨A9, c9, rfl, hrb, -⟩ := hf.rb
    rw [HLH.out]
    have R9 := Lib.hid hrb
    have R7 := Lib.hid (R7.out.keep hb)
    have Mq := Lib.hid (Mq.out.below hb)
    clear hb hf hrb HHO
    go_wp2_with (first | refine wpList_loadG (by first | rfl | kernel_rfl) _ _ rfl g6 0 rfl (pkc X) _ (pkc_whole (Mq.out.bk (g6, 29, pkc X) (by simp)).1) Try.underlying29 rfl (info_rpk HTX.out) ?_)
    with_reducible refine (HRC.out _).mono ?_
    rintro r wq ⟨rfl, hb⟩
    have R9 := Lib.hid (R9.out.keep hb)
    have R7 := Lib.hid (R7.out.keep hb)
    have Mq := Lib.hid (Mq.out.below hb)
    clear hb HRC
    have HC2 := Lib.hid (show ∀ w' bl ow', Mst W w' bl ow' → (⟨5, 1, .slice X.A N X.cp, N, by8 X.l⟩ : Ro) ∈ ow' → w'.cell? ⟨g5, 8, none⟩ = w'.cell? ⟨g5, 8, none⟩ from fun _ _ _ _ _ => rfl)
    rcases hnn with ⟨z1, hz⟩ | ⟨z1, z2, hz⟩ | ⟨z1, z2, hz⟩
    all_goals
      go_wp2_with (first | refine wpList_loadG (by first | rfl | kernel_rfl) _ _ rfl g5 0 rfl (pkc X) _ (pkc_whole (Mq.out.bk (g5, 33, pkc X) (by simp)).1) Try.underlying33 rfl (info_pk HTX.out) ?_)
      with_reducible refine (HCK.out _).mono ?_
      rintro r wq ⟨rfl, hb⟩
      have R9 := Lib.hid (R9.out.keep hb)
      have R7 := Lib.hid (R7.out.keep hb)
      have Mq := Lib.hid (Mq.out.below hb)
      clear hb
      go_wp2_with (first | refine wpList_loadG (by first | rfl | kernel_rfl) _ _ rfl g5 0 rfl (pkc X) _ (pkc_whole (Mq.out.bk (g5, 33, pkc X) (by simp)).1) Try.underlying33 rfl (info_pk HTX.out) ?_)
      with_reducible refine (HSM.out _ _ _ Mq.out (by simp)).mono ?_
      rintro r wq ⟨rfl, hb⟩
      have R9 := Lib.hid (R9.out.keep hb)
      have R7 := Lib.hid (R7.out.keep hb)
      have Mq := Lib.hid (Mq.out.below hb)
      clear hb
      go_wp2_with fail
      with_reducible refine (HSZ0.out _).mono ?_
      rintro r wq ⟨rfl, rfl⟩
      rw [hz.out]
      go_wp2_with fail
      with_reducible refine (HPA.out _ _ _ R7.out).mono ?_
      rintro r w13 ⟨Az, cz, rfl, hb, hrz⟩
      obtain ⟨Z, hZ⟩ : ∃ Z : Pk, { X with A := Az, cp := cz } = Z := ⟨_, rfl⟩
      rw [hZ]
      have HTZ := Lib.hid (show Z.T.length = 32 from by rw [← hZ]; exact HTX.out)
      have HZ2 := Lib.hid (show ∀ w' bl ow', Mst W w' bl ow' → (⟨5, 1, .slice X.A N X.cp, N, by8 X.l⟩ : Ro) ∈ ow' → RB w' w'.heap.size Az X.l → Calls Try.prog 17 #[.agg (pkc Z), .agg (pkc X)] w' fun e w2 => e = .returned (.bool true) ∧ Below w'.heap.size w' w2 from fun w' bl ow' h hm hr => by
        rw [← hZ]
        exact HZZ.out w' bl ow' Az cz h hm hr)
      have RZ := Lib.hid hrz
      have R9 := Lib.hid (R9.out.keep hb)
      have R7 := Lib.hid (R7.out.keep hb)
      have Mq := Lib.hid (Mq.out.below hb)
      clear hb hrz hZ HZZ HPA
      go_upto_region 14 with (first | refine wpList_store_row rfl _ _ _ rfl w13.heap.size (pkc Z) rfl rfl 33 _ (Bk.mk_ _ _ _) (info_pk HTZ.out) (y41_k HTZ.out) (pkc_one _) ?_)
      generalize hw14 : World.setRow _ _ _ = w14
      obtain ⟨g13, hg13⟩ : ∃ b, w13.heap.size = b := ⟨_, rfl⟩
      have hm := (Mst.setRow (bl := []) [] (Mq.out.new 33 Y41) (pkc Z)).toVP hw14 rfl
      have hb14 : Below w13.heap.size w13 w14 := by
        rw [← hw14]
        exact ((On.refl _ _).setRow (g := w13.heap.size) (.inl rfl) _).below (Nat.le_refl _) (by simp) |> fun h => ((Below.refl _ _).alloc (Nat.le_refl _) _).trans h
      have R9 := Lib.hid (R9.out.keep hb14)
      have R7 := Lib.hid (R7.out.keep hb14)
      have RZ := Lib.hid (RZ.out.keep hb14)
      rw [hg13] at hm
      simp only [hg13]
      have Mq := Lib.hid hm
      clear hw14 hm hg13 hb14
      go_wp2_with fail
      with_reducible refine (HKN.out _).mono ?_
      rintro r wq ⟨rfl, hb⟩
      have R9 := Lib.hid (R9.out.keep hb)
      have R7 := Lib.hid (R7.out.keep hb)
      have RZ := Lib.hid (RZ.out.keep hb)
      have Mq := Lib.hid (Mq.out.below hb)
      clear hb
      go_wp2_with (first | refine wpList_loadG (by first | rfl | kernel_rfl) _ _ rfl g6 0 rfl (pkc X) _ (pkc_whole (Mq.out.bk (g6, 29, pkc X) (by simp)).1) Try.underlying29 rfl (info_rpk HTX.out) ?_)
      with_reducible refine (HRO.out _ _ _ Mq.out (by simp)).mono ?_
      rintro r wq hr
      obtain ⟨A85, c85, rfl, hf⟩ := hr.toP
      have R85 := Lib.hid (show RB wq wq.heap.size A85 B from by unfold RB; rw [HLB.out]; exact own_rd hf.own)
      have R9 := Lib.hid (R9.out.keep hf.bel)
      have R7 := Lib.hid (R7.out.keep hf.bel)
      have RZ := Lib.hid (RZ.out.keep hf.bel)
      have Mq := Lib.hid (Mq.out.below hf.bel)
      clear hr hf HRO
      go_wp2_with fail
      with_reducible refine (HS1.out _ _ _ _ _ R7.out R85.out).mono ?_
      rintro r wq ⟨rfl, hb⟩
      have R9 := Lib.hid (R9.out.keep hb)
      have RZ := Lib.hid (RZ.out.keep hb)
      have Mq := Lib.hid (Mq.out.below hb)
      clear hb R7 R85
      go_wp2_with (first | refine wpList_loadG (by first | rfl | kernel_rfl) _ _ rfl g6 0 rfl (pkc X) _ (pkc_whole (Mq.out.bk (g6, 29, pkc X) (by simp)).1) Try.underlying29 rfl (info_rpk HTX.out) ?_)
      with_reducible refine (HRH.out _ _ _ Mq.out (by simp)).mono ?_
      rintro r wq hr
      obtain ⟨A91, c91, rfl, hf⟩ := hr.toP
      have R91 := Lib.hid (show RB wq wq.heap.size A91 H from by unfold RB; rw [HLH.out]; exact own_rd hf.own)
      have R9 := Lib.hid (R9.out.keep hf.bel)
      have RZ := Lib.hid (RZ.out.keep hf.bel)
      have Mq := Lib.hid (Mq.out.below hf.bel)
      clear hr hf HRH
      go_wp2_with fail
      with_reducible refine (HS2.out _ _ _ _ _ R9.out R91.out).mono ?_
      rintro r wq ⟨rfl, hb⟩
      have RZ := Lib.hid (RZ.out.keep hb)
      have Mq := Lib.hid (Mq.out.below hb)
      clear hb R9 R91
      go_wp2_with (first | refine wpList_loadG (by first | rfl | kernel_rfl) _ _ rfl g13 0 rfl (pkc Z) _ (pkc_whole (Mq.out.bk (g13, 33, pkc Z) (by simp)).1) Try.underlying33 rfl (info_pk HTZ.out) ?_ | refine wpList_loadG (by first | rfl | kernel_rfl) _ _ rfl g5 0 rfl (pkc X) _ (pkc_whole (Mq.out.bk (g5, 33, pkc X) (by simp)).1) Try.underlying33 rfl (info_pk HTX.out) ?_)
      with_reducible refine (HZ2.out _ _ _ Mq.out (by simp) RZ.out).mono ?_
      rintro r wq ⟨rfl, hb⟩
      have Mq := Lib.hid (Mq.out.below hb)
      clear hb RZ
      have hcx := pkc_cells (Mq.out.bk (g5, 33, pkc X) (by simp)).1
      rw [HXL.out] at hcx
      obtain ⟨x0, x1, x2, x3, x4, x5, x6, x7, x8⟩ := hcx
      clear x0 x1 x2 x3 x4 x5 x6 x7
      go_wp2_with fail
      with_reducible refine (HSN.out _).mono ?_
      rintro r wq ⟨rfl, rfl⟩
      have hlast : (((52 + N : Nat) : Int) == (N : Int) + 52) = true := by rw [beq_iff_eq]; omega
      have hlast2 : ((52 + (N : Int)) == (N : Int) + 52) = true := by rw [beq_iff_eq]; omega
      go_wp2_with fail
      go_ret
      exact ⟨rfl, Mq.out.bel⟩
  · skip
    have HBB := Lib.hid (fun w' => pbytes_bad X HTX.out w' hch)
    have HHB := Lib.hid (fun w' => head_bad X HTX.out w' hch)
    obtain ⟨C, hC⟩ : ∃ C, chkP X = C := ⟨_, rfl⟩
    rw [hC] at HCK HRC HBB HHB hch
    have c1 : (C == 0) = false := by simpa using hch
    have c2 : (C != 0) = true := by simpa using hch
    have c3 : (C != C) = false := by simp
    have c4 : (C == C) = true := by simp
    clear hch hC
    go_wp2_with (first | refine wpList_loadG (by first | rfl | kernel_rfl) _ _ rfl g5 0 rfl (pkc X) _ (pkc_whole (Mq.out.bk (g5, 33, pkc X) (by simp)).1) Try.underlying33 rfl (info_pk HTX.out) ?_)
    with_reducible refine (HBB.out _).mono ?_
    rintro r wq ⟨rfl, hb⟩
    have Mq := Lib.hid (Mq.out.below hb)
    clear hb
    go_wp2_with (first | refine wpList_loadG (by first | rfl | kernel_rfl) _ _ rfl g5 0 rfl (pkc X) _ (pkc_whole (Mq.out.bk (g5, 33, pkc X) (by simp)).1) Try.underlying33 rfl (info_pk HTX.out) ?_)
    with_reducible refine (HHB.out _).mono ?_
    rintro r wq ⟨rfl, hb⟩
    have Mq := Lib.hid (Mq.out.below hb)
    clear hb
    go_wp2_with (first | refine wpList_loadG (by first | rfl | kernel_rfl) _ _ rfl g6 0 rfl (pkc X) _ (pkc_whole (Mq.out.bk (g6, 29, pkc X) (by simp)).1) Try.underlying29 rfl (info_rpk HTX.out) ?_)
    with_reducible refine (HRC.out _).mono ?_
    rintro r wq ⟨rfl, hb⟩
    have Mq := Lib.hid (Mq.out.below hb)
    clear hb HRC HBB HHB
    rcases hnn with ⟨z1, hz⟩ | ⟨z1, z2, hz⟩ | ⟨z1, z2, hz⟩
    all_goals
      go_wp2_with (first | refine wpList_loadG (by first | rfl | kernel_rfl) _ _ rfl g5 0 rfl (pkc X) _ (pkc_whole (Mq.out.bk (g5, 33, pkc X) (by simp)).1) Try.underlying33 rfl (info_pk HTX.out) ?_)
      with_reducible refine (HCK.out _).mono ?_
      rintro r wq ⟨rfl, hb⟩
      have Mq := Lib.hid (Mq.out.below hb)
      clear hb
      go_wp2_with (first | refine wpList_loadG (by first | rfl | kernel_rfl) _ _ rfl g5 0 rfl (pkc X) _ (pkc_whole (Mq.out.bk (g5, 33, pkc X) (by simp)).1) Try.underlying33 rfl (info_pk HTX.out) ?_)
      with_reducible refine (HSM.out _ _ _ Mq.out (by simp)).mono ?_
      rintro r wq ⟨rfl, hb⟩
      have Mq := Lib.hid (Mq.out.below hb)
      clear hb
      go_wp2_with fail
      with_reducible refine (HSZ0.out _).mono ?_
      rintro r wq ⟨rfl, rfl⟩
      rw [hz.out]
      go_wp2_with fail
      with_reducible refine (HKN.out _).mono ?_
      rintro r wq ⟨rfl, hb⟩
      have Mq := Lib.hid (Mq.out.below hb)
      clear hb
      go_wp2_with fail
      go_ret
      exact ⟨rfl, Mq.out.bel⟩
theorem contract_packetBytes (W : World) (v0 v1 : Value) (a0 : ∃ p : Pk, v0 = .agg (pkc p) ∧ p.T.length = 32 ∧ RB W W.heap.size p.A p.l ∧ p.l.length ≤ p.cp ∧ p.cp ≤ 9223372036854775807) (a1 : ∃ z, v1 = .int .i64 z ∧ in64 z) :
    Calls Try.prog 3 #[v0, v1] W fun e W' => e = .returned (.bool true) ∧ Below W.heap.size W W' := by
  obtain ⟨p, rfl, hT, hr, hc, hcm⟩ := a0
  obtain ⟨n, rfl, hn⟩ := a1
  exact packetBytes_main W p hT hr hc hcm n hn
end Go.Proofs.Ytghcdffpplimoaa
