/-
  vigillaw02.MacDerives returns true, whatever it is called with. Conditions: none but that the slices can be read.
-/
import Derived.Test.YthnaobolmgcclaaMacTags
import Derived.Test.YthnaobolmgcclaaOpenS
namespace Go.Proofs.Ythnaobolmgcclaa
set_option linter.unusedVariables false
set_option linter.unusedSimpArgs false
open Go.RowKit

set_option maxRecDepth 100000 in
set_option maxHeartbeats 1600000 in
theorem macDerives_main (W : World) (A B : Option Addr) (c d : Nat) (l : List UInt8) (S : ByteArray) (ps : List Pt) (hr : RB W W.heap.size A l) (hc : l.length ≤ c ∧ c ≤ 9223372036854775807) (hS : S.size ≤ maxLen)
    (hp : Rd W W.heap.size 1 B ps.length (ps.map Pt.v)) (hpc : ∀ p ∈ ps, RB W W.heap.size p.A p.l ∧ p.l.length ≤ p.c ∧ p.c ≤ 9223372036854775807) (hpn : ps.length ≤ 9223372036854775807) :
    Calls Try.prog 10 #[.slice A l.length c, .string S, .slice B ps.length d] W fun e W' => e = .returned (.bool true) ∧ Below W.heap.size W W' := by
  unfold maxLen at hS
  obtain ⟨N, hN⟩ : ∃ N, l.length = N := ⟨_, rfl⟩
  obtain ⟨M, hM⟩ : ∃ M, S.size = M := ⟨_, rfl⟩
  rw [hN] at hc ⊢
  rw [hM] at hS
  obtain ⟨hc1, hc2⟩ := hc
  have hr2 := hr.cut 150
  obtain ⟨n, hn, n2, n1⟩ := cut_n N 150
  obtain ⟨m, hm, m2, m1⟩ := cut_n M 60
  obtain ⟨l', hl'⟩ : ∃ l', l.take 150 = l' := ⟨_, rfl⟩
  have hln : l'.length = n := by rw [← hl', List.length_take]; omega
  rw [hl'] at hr2
  have hmin1 : min (N : Int) 150 = n := hn.symm
  have hmin2 : min (M : Int) 60 = m := hm.symm
  have n4 : (0 : Int) ≤ n := by omega
  have m4 : (0 : Int) ≤ m := by omega
  have n5 : (n : Int) ≤ c := by omega
  have m5 : (m : Int) ≤ M := by omega
  have HLN := Lib.hid hln
  have R1 := Lib.hid (show Rd W W.heap.size 1 A n (by8 l') from by rw [← hln]; exact hr2)
  have HF := Lib.hid (show ∀ w', Below W.heap.size W w' → Calls Try.prog 49 #[.slice B ps.length d] w' fun e w2 => ∃ v1 v2, e = .returned (.tuple #[v1, v2]) ∧ FeR w' w2 (fewP 8 60 ps) (fewP 8 60 ps).length v1 v2 from fun w' hb => few2_any w' B d ps ⟨(hp.below hb).more hb.size, fun p h => ((hpc p h).1.below hb).more hb.size⟩ (fun p h => (hpc p h).2) hpn)
  have hq := fewP_old (M := 8) (N := 60) fun p h => (hpc p h).1
  have hq6 := fewP_le 8 60 ps
  have hlen : (fewP 8 60 ps).length ≤ 8 := by rw [fewP_len]; omega
  obtain ⟨qs, hqs⟩ : ∃ q, fewP 8 60 ps = q := ⟨_, rfl⟩
  rw [hqs] at HF hq hlen hq6
  have HQ := Lib.hid hq
  have HQ6 := Lib.hid hq6
  obtain ⟨g, hG⟩ : ∃ n, qs.length = n := ⟨_, rfl⟩
  rw [hG] at HF hlen
  have HG := Lib.hid hG
  obtain ⟨pn, hPN⟩ : ∃ n, ps.length = n := ⟨_, rfl⟩
  rw [hPN] at HF ⊢
  obtain ⟨KT, hKT⟩ := rsum_ex
  have HKT := Lib.hid hKT
  have HMK := Lib.hid hKT.make
  clear hr hr2 hln hl' hn hm hp hpc hpn hq hqs hPN hKT hG hq6
  go_enter Try.func10, Try.ntmps10
  go_wp2_with fail
  go_quiet (fail)
  obtain ⟨S', hS'⟩ : ∃ B', S.extract 0 m = B' := ⟨_, rfl⟩
  rw [hS']
  have hSs : S'.size = m := by rw [← hS', ByteArray.size_extract]; omega
  have HSS := Lib.hid hSs
  have M0 := Lib.hid ((Mst.start W).drewN nq)
  generalize World.drewN _ _ = w0 at M0 ⊢
  clear hmin1 hmin2 hS' hSs
  go_wp2_with fail
  refine (HF.out _ M0.out.bel).mono ?_
  rintro e w1 ⟨v1, v2, rfl, hfe⟩
  have hq1 : ∀ q ∈ qs, RB w0 w0.heap.size q.A q.l := fun q h => ((HQ.out q h).below M0.out.bel).more M0.out.bel.size
  obtain ⟨A1, c1, A2, c2, ow, rfl, rfl, m1', hS1, hS2⟩ := fe_open HG.out hfe hq1
  have H1 := Lib.hid hS1
  have Mq := Lib.hid m1'
  have R1 := Lib.hid ((R1.out.below M0.out.bel).more M0.out.bel.size)
  have HB0 := Lib.hid M0.out.bel
  obtain ⟨TL, hTL⟩ : ∃ n, (catP qs).length = n := ⟨_, rfl⟩
  rw [hTL]
  obtain ⟨K, hK⟩ : ∃ K, macT l' (frameB (S'.data.toList :: qs.map Pt.l)) = K := ⟨_, rfl⟩
  have hKl : K.length = 32 := by rw [← hK]; rfl
  have HD1 := Lib.hid (show ∀ w', Rd w' w'.heap.size 1 A n (by8 l') → Pts w' A1 qs → Calls Try.prog 53 #[.slice A n c, .string S', .slice A1 g c1] w' fun e w2 => e = .returned (.agg (b8a K)) ∧ Below w'.heap.size w' w2 from fun w' h1 h2 => by
    have := derive_any w' A c l' (by unfold RB; rw [HLN.out]; exact h1) (by rw [HLN.out]; omega) S' (by rw [HSS.out]; omega) A1 c1 qs h2 (by rw [HG.out]; omega) (fun p hp => Nat.le_trans (HQ6.out p hp) (by decide))
    rw [HLN.out, HG.out, hK] at this
    exact this)
  have HD2 := Lib.hid (show ∀ w', Rd w' w'.heap.size 1 A n (by8 l') → Pts w' A1 qs → Calls Try.prog 54 #[.agg KT, .slice A n c, .string S', .slice A1 g c1] w' fun e w2 => e = .returned (.agg (b8a K)) ∧ Below w'.heap.size w' w2 from fun w' h1 h2 => by
    have := refderive_any KT HKT.out w' A c l' (by unfold RB; rw [HLN.out]; exact h1) (by rw [HLN.out]; omega) S' (by rw [HSS.out]; omega) A1 c1 qs h2 (by rw [HG.out]; omega) (fun p hp => Nat.le_trans (HQ6.out p hp) (by decide))
    rw [HLN.out, HG.out, hK] at this
    exact this)
  have EQ := eq32 K K hKl hKl
  rw [beq_self_eq_true] at EQ
  clear hfe m1' hS1 hS2 HF M0 hq1 hK hKl hTL
  go_wp2_with fail
  refine (known02 _).mono ?_
  rintro e w2 ⟨rfl, hb⟩
  have Mq := Lib.hid (Mq.out.below hb)
  clear hb
  go_wp2_with fail
  refine (HD1.out _ (Mq.out.src (Src.old R1.out)) (Mq.out.pts H1.out)).mono ?_
  rintro e w3 ⟨rfl, hb⟩
  have Mq := Lib.hid (Mq.out.below hb)
  clear hb
  go_wp2_with fail
  refine (HMK.out _).mono ?_
  rintro e w4 ⟨rfl, hb⟩
  have Mq := Lib.hid (Mq.out.below hb)
  clear hb
  go_wp2_with fail
  refine (HD2.out _ (Mq.out.src (Src.old R1.out)) (Mq.out.pts H1.out)).mono ?_
  rintro e w5 ⟨rfl, hb⟩
  have Mq := Lib.hid (Mq.out.below hb)
  clear hb
  go_wp2
  go_ret
  exact ⟨rfl, Bsz HB0.out Mq.out.bel⟩
theorem contract_macDerives (W : World) (v0 v1 v2 : Value) (a0 : ∃ r : Rw, v0 = r.v ∧ r.ok .u8 W) (a1 : ∃ s : ByteArray, v1 = .string s ∧ s.size ≤ maxLen) (a2 : ∃ A c, ∃ rows : List Rw, v2 = .slice A rows.length c ∧ rows.length ≤ c ∧ c ≤ maxLen ∧ Rd W W.heap.size 1 A rows.length (rows.map Rw.v) ∧ ∀ x ∈ rows, x.ok .u8 W) :
    Calls Try.prog 10 #[v0, v1, v2] W fun e W' => e = .returned (.bool true) ∧ Below W.heap.size W W' := by
  obtain ⟨r, rfl, hr⟩ := a0
  obtain ⟨s, rfl, hs⟩ := a1
  obtain ⟨A, c, rows, rfl, h1, h2, h3, h4⟩ := a2
  obtain ⟨ps, e1, e2, e3⟩ := rows_pt rows h4
  rw [← e1, ← e2] at h3
  rw [← e2] at h1 ⊢
  obtain ⟨l, e, g1, g2, g3⟩ := rw_pt hr
  rw [e]
  exact macDerives_main W r.A A r.c c l s ps g1 ⟨g2, g3⟩ hs h3 e3 (by unfold maxLen at h2; omega)
end Go.Proofs.Ythnaobolmgcclaa
