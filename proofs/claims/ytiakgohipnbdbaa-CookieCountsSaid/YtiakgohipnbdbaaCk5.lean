/- Contracts of the document's cookies: Cookie, Fresh. -/
import Derived.Test.YtiakgohipnbdbaaCk4
namespace Go.Proofs.Ytiakgohipnbdbaa
set_option linter.unusedVariables false
set_option linter.unusedSimpArgs false
open Go.RowKit

set_option maxRecDepth 100000 in
set_option maxHeartbeats 1000000 in
theorem refcookie_any (KT : Array Value) (hKT : RSum KT) (w : World) (Ak : Option Addr) (ck : Nat) (kb : List UInt8) (hr : RB w w.heap.size Ak kb) (hkl : kb.length ≤ 1000) (e a : Nat) (he : e < 4294967296) (ha : a < 65536)
    (A1 : Option Addr) (c1 : Nat) (ps : List Pt) (hp : Pts w A1 ps) (hn : ps.length ≤ 50) (hpl : ∀ p ∈ ps, p.l.length ≤ 1000) :
    Calls Try.prog 32 #[.agg KT, .slice Ak kb.length ck, .int .i64 (e : Int), .int .i64 (a : Int), .slice A1 ps.length c1] w fun r w' => ∃ g, r = .returned (.slice (some ⟨g, 0, none⟩) 16 32) ∧ RB w' w'.heap.size (some ⟨g, 0, none⟩) (ckB kb e a (ps.map Pt.l)) ∧ Below w.heap.size w w' := by
  obtain ⟨K2, hK2⟩ : ∃ K, macT kb (frameB (cookieS.data.toList :: len4 e :: two2 a :: ps.map Pt.l)) = K := ⟨_, rfl⟩
  have hKl2 : K2.length = 32 := by rw [← hK2]; rfl
  have hK28 : K2.take 16 = ckB kb e a (ps.map Pt.l) := by rw [← hK2]; rfl
  rw [← hK28]
  have HKD := Lib.hid (show ∀ w' A' c' N g1 g2 c1 c2, N = ps.length + 2 → Below w.heap.size w w' → Pts w' A' (⟨some ⟨g1, 0, none⟩, c1, len4 e⟩ :: ⟨some ⟨g2, 0, none⟩, c2, two2 a⟩ :: ps) → Calls Try.prog 66 #[.agg KT, .slice Ak kb.length ck, .string cookieS, .slice A' N c'] w' fun e w2 => e = .returned (.agg (b8a K2)) ∧ Below w'.heap.size w' w2 from fun w' A' c' N g1 g2 c1 c2 hN hb h2 => by
    subst hN
    have := refderive_any KT hKT w' Ak ck kb ((hr.below hb).more hb.size) (by omega) cookieS (by decide) A' c' _ h2 (by simp; omega) (by
      intro p hp
      rcases List.mem_cons.1 hp with rfl | hp
      · show (len4 e).length ≤ _
        rw [show (len4 e).length = 4 from rfl]; decide
      · rcases List.mem_cons.1 hp with rfl | hp
        · show (two2 a).length ≤ _
          rw [show (two2 a).length = 2 from rfl]; decide
        · exact hpl p hp)
    rw [show List.map Pt.l ((⟨some ⟨g1, 0, none⟩, c1, len4 e⟩ : Pt) :: ⟨some ⟨g2, 0, none⟩, c2, two2 a⟩ :: ps) = len4 e :: two2 a :: ps.map Pt.l from rfl, hK2] at this
    exact this)
  have HPO := Lib.hid (show ∀ q ∈ ps, RB w w.heap.size q.A q.l from hp.2)
  obtain ⟨n, hN⟩ : ∃ n, ps.length = n := ⟨_, rfl⟩
  obtain ⟨kn, hKN⟩ : ∃ n, kb.length = n := ⟨_, rfl⟩
  have HPR := Lib.hid (show Rd w w.heap.size 1 A1 n (ps.map Pt.v) by have := hp.1; rwa [hN] at this)
  rw [hN] at hn HKD ⊢
  rw [hKN] at HKD ⊢
  have HN := Lib.hid hN
  have L4 := Lib.hid (len4_cells e he)
  have L2 := Lib.hid (two2_cells a ha)
  have KL2 := Lib.hid hKl2
  have HKT := Lib.hid hKT
  have m1 := ((Mst.start w).new 61 KT).newrow 5 1 4 4 #[.int .u8 ((e : Int) / 16777216), .int .u8 ((e : Int) / 65536 % 256), .int .u8 ((e : Int) / 256 % 256), .int .u8 ((e : Int) % 256)] (Nat.le_refl _) (by decide) rfl
  rw [show (w.alloc (.cells KT 61)).heap.size = w.heap.size + 1 by simp] at m1
  have M1 := Lib.hid m1
  have i1 : (0 : Int) ≤ e := by omega
  have i2 : (e : Int) < 4294967296 := by omega
  have i3 : (0 : Int) ≤ a := by omega
  have i4 : (a : Int) < 65536 := by omega
  clear hr hp hpl hN hK2 hKl2 hK28 m1 hKT hKN
  go_enter Try.func32, Try.ntmps32
  go_upto_region 2 with fail
  generalize hw1 : World.alloc (World.alloc _ _) _ = w1
  have M1 := Lib.hid (M1.out.toW hw1 rfl)
  have m2 := M1.out.newrow 5 1 2 2 #[.int .u8 ((a : Int) / 256), .int .u8 ((a : Int) % 256)] (Nat.le_refl _) (by decide) rfl
  have m3 := m2.newrow 24 1 2 2 #[.slice (some ⟨w.heap.size + 1, 0, none⟩) 4 4, .slice (some ⟨w1.heap.size, 0, none⟩) 2 2] (Nat.le_refl _) (by decide) rfl
  rw [show (w1.alloc (.cells #[.int .u8 ((a : Int) / 256), .int .u8 ((a : Int) % 256)] 5)).heap.size = w1.heap.size + 1 by simp] at m3
  have M3 := Lib.hid m3
  clear hw1 m2 m3
  go_upto_region 3 with (at_builtin; refine wpList_appE rfl _ _ 46 rfl [] M3.out el_bs rfl _ A1 n c1 (ps.map Pt.v) rfl (M3.out.src (Src.old HPR.out)) (by simp [Pt.v, Value.oneCell']) (by unfold maxLen; omega) (by omega) ?_; intro A5 c5 w5 N5 X5 hn5 hx5 mq; have Mq := Lib.hid mq; have HN5 := Lib.hid hn5; have HX5 := Lib.hid hx5; clear mq hn5 hx5)
  have hpts : Pts w5 A5 (⟨some ⟨w.heap.size + 1, 0, none⟩, 4, len4 e⟩ :: ⟨some ⟨w1.heap.size, 0, none⟩, 2, two2 a⟩ :: ps) := by
    have hr := own_rd (Mq.out.row [])
    rw [HN5.out, HX5.out] at hr
    refine ⟨by
      rw [show (⟨some ⟨w.heap.size + 1, 0, none⟩, 4, len4 e⟩ :: ⟨some ⟨w1.heap.size, 0, none⟩, 2, two2 a⟩ :: ps : List Pt).length = 2 + n by simp; rw [HN.out]; omega]
      exact hr, fun p hp => ?_⟩
    rcases List.mem_cons.1 hp with rfl | hp
    · have := Mq.out.src (Mq.out.rowSrc (size := 1) (n := 4) (A := some ⟨w.heap.size + 1, 0, none⟩) (c := 4) (e := 5) (List.mem_cons_of_mem _ (List.mem_cons_of_mem _ (List.mem_cons_self ..))))
      unfold RB
      rw [← L4.out]
      exact this
    · rcases List.mem_cons.1 hp with rfl | hp
      · have := Mq.out.src (Mq.out.rowSrc (size := 1) (n := 2) (A := some ⟨w1.heap.size, 0, none⟩) (c := 2) (e := 5) (List.mem_cons_of_mem _ (List.mem_cons_self ..)))
        unfold RB
        rw [← L2.out]
        exact this
      · exact Mq.out.src (Src.old (HPO.out p hp))
  have HD := Lib.hid (HKD.out w5 A5 c5 N5 _ _ _ _ (by rw [HN5.out]; omega) Mq.out.bel hpts)
  have L0 := Lib.hid ((Mq.out.blk []).rangeL)
  clear hpts
  go_wp2_with (first | refine wpList_load_mid rfl _ _ rfl w.heap.size 0 rfl KT.toList _ L0.out Try.underlying61 rfl HKT.out.infL ?_)
  refine HD.out.mono ?_
  rintro r w6 ⟨rfl, hb⟩
  have Mq := Lib.hid ((Mq.out.below hb).arr32 K2)
  clear hb
  go_wp2_with (first | refine wpList_store_row rfl _ _ _ rfl w6.heap.size (b8a K2) rfl rfl 119 _ (Bk.mk_ _ _ _) (info_k KL2.out) (y32_k KL2.out) (b8a_one K2) ?_)
  go_ret
  refine ⟨_, rfl, ?_, Mq.out.bel⟩
  have := (show RB _ _ (some ⟨w6.heap.size, 0, none⟩) K2 from by unfold RB; rw [KL2.out]; exact Mq.out.src (Src.arr (List.mem_cons_self ..) KL2.out)).cut 16
  exact this

set_option maxRecDepth 100000 in
set_option maxHeartbeats 1000000 in
theorem reffresh_any (KT : Array Value) (hKT : RSum KT) (w : World) (Ak : Option Addr) (ck : Nat) (kb : List UInt8) (hr : RB w w.heap.size Ak kb) (hkl : kb.length ≤ 1000) (Ac : Option Addr) (cc : Nat) (c : List UInt8) (hcr : RB w w.heap.size Ac c) (hcl : c.length ≤ 1000) (a t : Nat) (ha : a < 65536) (ht : t ≤ 1073741824)
    (A1 : Option Addr) (c1 : Nat) (ps : List Pt) (hp : Pts w A1 ps) (hn : ps.length ≤ 50) (hpl : ∀ p ∈ ps, p.l.length ≤ 1000) :
    Calls Try.prog 36 #[.agg KT, .slice Ak kb.length ck, .slice Ac c.length cc, .int .i64 (a : Int), .int .i64 (t : Int), .slice A1 ps.length c1] w fun r w' => r = .returned (.bool (freshB kb (t / 64) a (ps.map Pt.l) c)) ∧ Below w.heap.size w w' := by
  obtain ⟨ls, hls⟩ : ∃ l, ps.map Pt.l = l := ⟨_, rfl⟩
  obtain ⟨now, hnow⟩ : ∃ n, t / 64 = n := ⟨_, rfl⟩
  have hnl : now ≤ 16777216 := by omega
  rw [hls, hnow]
  have HC := Lib.hid (show ∀ w' (e : Nat), e ≤ 16777216 → Below w.heap.size w w' → Calls Try.prog 32 #[.agg KT, .slice Ak kb.length ck, .int .i64 (e : Int), .int .i64 (a : Int), .slice A1 ps.length c1] w' fun r w2 => ∃ g, r = .returned (.slice (some ⟨g, 0, none⟩) 16 32) ∧ RB w2 w2.heap.size (some ⟨g, 0, none⟩) (ckB kb e a ls) ∧ Below w'.heap.size w' w2 from fun w' e he hb => by
    have := refcookie_any KT hKT w' Ak ck kb ((hr.below hb).more hb.size) hkl e a (by omega) ha A1 c1 ps ⟨(hp.1.below hb).more hb.size, fun p h => ((hp.2 p h).below hb).more hb.size⟩ hn hpl
    rw [hls] at this
    exact this)
  have HS := Lib.hid (show ∀ w' A' (K : List UInt8), K.length = 16 → Below w.heap.size w w' → RB w' w'.heap.size A' K → Calls Try.prog 22 #[.slice Ac c.length cc, .slice A' 16 32] w' fun r w2 => r = .returned (.bool (decide (c = K))) ∧ Below w'.heap.size w' w2 from fun w' A' K hK hb h => by
    have := same_any Ac A' cc 32 c K w' ((hcr.below hb).more hb.size) h (by unfold maxLen; omega)
    rw [hK] at this
    exact this)
  obtain ⟨kn, hKN⟩ : ∃ n, kb.length = n := ⟨_, rfl⟩
  obtain ⟨cn, hCN⟩ : ∃ n, c.length = n := ⟨_, rfl⟩
  obtain ⟨n, hN⟩ : ∃ n, ps.length = n := ⟨_, rfl⟩
  rw [hKN, hN] at HC
  rw [hCN] at HS
  rw [hKN, hCN, hN]
  have M1 := Lib.hid ((Mst.start w).new 61 KT)
  have HKT := Lib.hid hKT
  have L0 := Lib.hid ((M1.out.blk []).rangeL)
  have hd64 : (t : Int) / 64 = now := by omega
  have i1 : (0 : Int) ≤ t := by omega
  have i2 : (t : Int) ≤ 1073741824 := by omega
  have hl1 := ckB_len kb now a ls
  have hl2 := ckB_len kb (now - 1) a ls
  obtain ⟨K, hK⟩ : ∃ K, ckB kb now a ls = K := ⟨_, rfl⟩
  obtain ⟨K', hK'⟩ : ∃ K, ckB kb (now - 1) a ls = K := ⟨_, rfl⟩
  have HFR := Lib.hid (show freshB kb now a ls c = (decide (c = K) || (decide (0 < now) && decide (c = K'))) by unfold freshB; rw [hK, hK'])
  have HC0 := Lib.hid (HC.out · now hnl)
  have HC1 := Lib.hid (HC.out · (now - 1) (by omega))
  rw [hK] at hl1 HC0
  rw [hK'] at hl2 HC1
  have KL1 := Lib.hid hl1
  have KL2 := Lib.hid hl2
  obtain ⟨D, hD⟩ : ∃ D, decide (c = K) = D := ⟨_, rfl⟩
  obtain ⟨D', hD'⟩ : ∃ D, decide (c = K') = D := ⟨_, rfl⟩
  rw [hD, hD'] at HFR
  have HS0 := Lib.hid (HS.out · · K hl1)
  have HS1 := Lib.hid (HS.out · · K' hl2)
  rw [hD] at HS0
  rw [hD'] at HS1
  clear hr hcr hp hpl hKT hls hnow hK hK' hD hD' hl1 hl2 hKN hCN hN HC HS ht hcl
  rw [HFR.out]
  go_enter Try.func36, Try.ntmps36
  go_wp2_with (first | refine wpList_load_mid rfl _ _ rfl w.heap.size 0 rfl KT.toList _ L0.out Try.underlying61 rfl HKT.out.infL ?_)
  refine (HC0.out _ M1.out.bel).mono ?_
  rintro r w2 ⟨g, rfl, hrb, hb⟩
  have M2 := Lib.hid (M1.out.below hb)
  have HRB := Lib.hid hrb
  clear hb hrb
  go_wp2_with fail
  refine (HS0.out _ _ M2.out.bel HRB.out).mono ?_
  rintro r w3 ⟨rfl, hb⟩
  have M3 := Lib.hid (M2.out.below hb)
  clear hb
  cases D with
  | true =>
    go_wp2
    go_ret
    exact ⟨rfl, M3.out.bel⟩
  | false =>
    by_cases hn0 : 0 < now
    · have j1 : (0 : Int) < now := by omega
      have HN0 := Lib.hid (show decide (0 < now) = true from decide_eq_true hn0)
      have L3 := Lib.hid ((M3.out.blk []).rangeL)
      have hsub : ((now - 1 : Nat) : Int) = (now : Int) - 1 := by omega
      rw [hsub] at HC1
      clear hn0 hsub
      go_wp2_with (first | refine BigFrame.wpList_want (by rfl) fun _ hK => ?_; refine wp_load_mid _ _ rfl w.heap.size 0 rfl KT.toList _ L3.out Try.underlying61 rfl HKT.out.infL ?_; refine hK _ _ ?_)
      refine (HC1.out _ M3.out.bel).mono ?_
      rintro r w4 ⟨g', rfl, hrb, hb⟩
      have M4 := Lib.hid (M3.out.below hb)
      have HRB := Lib.hid hrb
      clear hb hrb
      go_wp2_with fail
      refine (HS1.out _ _ M4.out.bel HRB.out).mono ?_
      rintro r w5 ⟨rfl, hb⟩
      have M5 := Lib.hid (M4.out.below hb)
      clear hb
      go_wp2
      go_ret
      exact ⟨by rw [HN0.out]; simp, M5.out.bel⟩
    · have j1 : ¬ (0 : Int) < now := by omega
      have HN0 := Lib.hid (show decide (0 < now) = false from decide_eq_false hn0)
      clear hn0
      go_wp2
      go_ret
      exact ⟨by rw [HN0.out]; rfl, M3.out.bel⟩
end Go.Proofs.Ytiakgohipnbdbaa
