/- Contract of package cookie's Check. -/
import Derived.Test.YtiakgohipnbdbaaCk3
namespace Go.Proofs.Ytiakgohipnbdbaa
set_option linter.unusedVariables false
set_option linter.unusedSimpArgs false
open Go.RowKit

/-- Is a cookie fresh? -/
def freshB (kb : List UInt8) (now a : Nat) (ls : List (List UInt8)) (ck : List UInt8) : Bool := decide (ck = ckB kb now a ls) || (decide (0 < now) && decide (ck = ckB kb (now - 1) a ls))
/-- Not fresh as far as it was looked at. -/
def staleK (kb : List UInt8) (now a : Nat) (ls : List (List UInt8)) (ck : List UInt8) (k : Nat) : Prop := (1 ≤ k → ck ≠ ckB kb now a ls) ∧ (2 ≤ k → 0 < now ∧ ck ≠ ckB kb (now - 1) a ls)
structure CkL (W wr : World) (bl : Bl) (ow : List Ro) (gb gK g33 : Nat) (x y : Int) (now : Nat) : Prop where
  m : Mst W wr ((g33, 3, #[.int .i64 (now : Int), .int .i64 ((now : Int) - 1)]) :: (gb, 117, bkc x y gK) :: bl) ow

set_option maxRecDepth 100000 in
set_option maxHeartbeats 2000000 in
theorem ckcheck_M (W w : World) (bl : Bl) (ow : List Ro) (gb gK : Nat) (x y : Int) (kb : List UInt8) (hm : Mst W w ((gb, 117, bkc x y gK) :: bl) ow) (hkl : kb.length ≤ 1000)
    (hk : ∀ w' x y, Mst W w' ((gb, 117, bkc x y gK) :: bl) ow → KeyW w' gK kb) (A1 : Option Addr) (c1 : Nat) (ps : List Pt) (hp : ∀ w' x y, Mst W w' ((gb, 117, bkc x y gK) :: bl) ow → Pts w' A1 ps)
    (hn : ps.length ≤ 50) (hpl : ∀ p ∈ ps, p.l.length ≤ 1000) (a t : Nat) (ha : a < 65536) (ht : t ≤ 1073741824) (h0 : 0 ≤ y) (h1 : y < 2147483647)
    (Ac : Option Addr) (cc : Nat) (ck : List UInt8) (hck : ∀ w' x y, Mst W w' ((gb, 117, bkc x y gK) :: bl) ow → RB w' w'.heap.size Ac ck) (h16 : ck.length = 16) :
    Calls Try.prog 31 #[.pointer (some ⟨gb, 0, none⟩), .slice Ac 16 cc, .int .i64 (a : Int), .int .i64 (t : Int), .slice A1 ps.length c1] w fun e w' =>
      (freshB kb (t / 64) a (ps.map Pt.l) ck = true → e = .returned (.int .i64 0) ∧ Mst W w' ((gb, 117, bkc x y gK) :: bl) ow) ∧
      (freshB kb (t / 64) a (ps.map Pt.l) ck = false → e = .returned (.int .i64 9) ∧ Mst W w' ((gb, 117, bkc x (y + 1) gK) :: bl) ow) := by
  have HC := Lib.hid (fun w => ckcheck_any gb a t w)
  have hok : okCk a t = true := by simp [okCk]; omega
  rw [hok] at HC
  have HE := Lib.hid (epoch_nat t (by omega))
  obtain ⟨ls, hls⟩ : ∃ l, ps.map Pt.l = l := ⟨_, rfl⟩
  obtain ⟨now, hnow⟩ : ∃ n, t / 64 = n := ⟨_, rfl⟩
  have hnl : now ≤ 16777216 := by omega
  rw [hnow] at HE ⊢
  rw [hls]
  have HO := Lib.hid (show ∀ w' (e : Nat), e ≤ 16777216 → Mst W w' ((gb, 117, bkc x y gK) :: bl) ow → Calls Try.prog 64 #[.pointer (some ⟨gb, 0, none⟩), .int .i64 (e : Int), .int .i64 (a : Int), .slice A1 ps.length c1] w' fun r w2 => r = .returned (.agg (b8a (ckB kb e a ls))) ∧ Below w'.heap.size w' w2 from fun w' e he h => by
    have := of_any w' gb gK kb ((h.blk []).cell 2) (hk _ _ _ h) hkl e a (by omega) ha A1 c1 ps (hp _ _ _ h) hn hpl
    rw [hls] at this
    exact this)
  have HQ := Lib.hid (show ∀ w' A' (K : List UInt8), K.length = 16 → Mst W w' ((gb, 117, bkc x y gK) :: bl) ow → Rd w' w'.heap.size 1 A' 16 (by8 K) → Calls Try.prog 65 #[.slice Ac 16 cc, .slice A' 16 16] w' fun r w2 => r = .returned (.bool (decide (ck = K))) ∧ Below w'.heap.size w' w2 from fun w' A' K hK h hr => by
    have := equal2_any Ac A' cc 16 ck K w' (hck _ _ _ h) (by unfold RB; rw [hK]; exact hr) (by rw [h16]; decide)
    rw [h16, hK] at this
    exact this)
  have HCT := Lib.hid (show ∀ w', Mst W w' ((gb, 117, bkc x y gK) :: bl) ow → Calls Try.prog 63 #[.pointer (some ⟨gb, 1, none⟩)] w' fun r w2 => r = .returned (.tuple #[]) ∧ Mst W w2 ((gb, 117, bkc x (y + 1) gK) :: bl) ow from fun w' h => by
    refine (count_any gb 1 y w' ((h.blk []).cell 1) ((h.blk []).fr 1) h0 h1).mono ?_
    rintro r w2 ⟨rfl, rfl⟩
    exact ⟨rfl, h.put [] 1 (.int .i64 (y + 1))⟩)
  obtain ⟨n, hN⟩ : ∃ n, ps.length = n := ⟨_, rfl⟩
  rw [hN] at HO ⊢
  have m1 := hm.new 3 #[.int .i64 (now : Int), .int .i64 ((now : Int) - 1)]
  have M1 := Lib.hid m1
  have i1 : (0 : Int) ≤ now := by omega
  have i2 : (now : Int) ≤ 16777216 := by omega
  clear hm hk hp hck hpl hok hN m1 hls hnow h16
  go_enter Try.func31, Try.ntmps31
  go_wp2_with fail
  go_step3
  go_wp2_with fail
  refine (HC.out _).mono ?_
  rintro e w1 ⟨rfl, rfl⟩
  go_wp2_with fail
  refine (HE.out _).mono ?_
  rintro e w1 ⟨rfl, rfl⟩
  have T0 := Lib.hid (show CkL W (w1.alloc (.cells #[.int .i64 (now : Int), .int .i64 ((now : Int) - 1)] 3)) bl ow gb gK w1.heap.size x y now from ⟨M1.out⟩)
  go_wp2_with fail
  go_step3
  go_wp2_with fail
  obtain ⟨g33, hg33⟩ : ∃ g, w1.heap.size = g := ⟨_, rfl⟩
  rw [hg33] at T0 ⊢
  clear hg33 M1
  go_loopg [35] 2 (fun gg s35 wr => ∃ k : Nat, k + gg = 2 ∧ s35 = .int .i64 k ∧ CkL W wr bl ow gb gK g33 x y now ∧ staleK kb now a ls ck k)
  case atStart => exact ⟨0, by omega, rfl, T0.out, by omega, by omega⟩
  case round =>
    obtain ⟨k, hk, rfl, ⟨hm⟩, hst⟩ := hrel
    have Mr := Lib.hid hm
    have HST := Lib.hid hst
    clear hm hst
    have q0 := (Mr.out.blk []).cell 0
    have q1 := (Mr.out.blk []).cell 1
    have hc : k = 0 ∨ k = 1 ∨ k = 2 := by omega
    rcases hc with rfl | rfl | rfl
    · obtain ⟨K, hK⟩ : ∃ K, ckB kb now a ls = K := ⟨_, rfl⟩
      have hKl : K.length = 16 := by rw [← hK]; exact ckB_len _ _ _ _
      have HO0 := Lib.hid (HO.out wr now hnl Mr.out.dropb)
      rw [hK] at HO0
      have HK := Lib.hid hK
      have KL := Lib.hid hKl
      clear hK hKl
      go_wp2_with fail
      refine HO0.out.mono ?_
      rintro r w3 ⟨rfl, hb⟩
      have Mq := Lib.hid (Mst.setRow (bl := []) [] ((Mr.out.below hb).new 51 Y16) (b8a K))
      clear hb
      have HEq := Lib.hid (HQ.out _ _ K KL.out Mq.out.dropb.dropb (Mq.out.src (Src.arr (List.mem_cons_self ..) KL.out)))
      obtain ⟨D, hD⟩ : ∃ D, decide (ck = K) = D := ⟨_, rfl⟩
      rw [hD] at HEq
      have HD := Lib.hid hD
      clear hD
      go_wp2_with (first | refine wpList_store_row rfl _ _ _ rfl w3.heap.size (b8a K) rfl rfl 51 _ (Bk.mk_ _ _ Y16) (info_16 KL.out) (y16_k KL.out) (b8a_one K) ?_)
      refine HEq.out.mono ?_
      rintro r w4 ⟨rfl, hb⟩
      have Mq := Lib.hid (Mq.out.dropb.below hb)
      clear hb HEq
      cases D with
      | true =>
        have HF := Lib.hid (show freshB kb now a ls ck = true by unfold freshB; rw [HK.out, HD.out, Bool.true_or])
        go_wp2_with fail
        rw [Exit.noGoto_ret]
        go_ret
        exact ⟨fun _ => ⟨rfl, Mq.out.dropb⟩, fun h => by rw [HF.out] at h; cases h⟩
      | false =>
        go_wp2_with fail
        go_roundg 1
        case measure => omega
        case rel => exact ⟨1, by omega, by go_num, ⟨Mq.out⟩, fun _ => by rw [HK.out]; simpa using HD.out, by omega⟩
    · by_cases hn0 : now = 0
      · have i3 : (now : Int) - 1 < 0 := by omega
        have HF := Lib.hid (show freshB kb now a ls ck = false by unfold freshB; rw [decide_eq_false (HST.out.1 (Nat.le_refl _)), hn0]; rfl)
        clear hn0
        go_wp2_with fail
        refine (HCT.out _ Mr.out.dropb).mono ?_
        rintro r w4 ⟨rfl, m4⟩
        have M4 := Lib.hid m4
        clear m4
        go_wp2_with fail
        rw [Exit.noGoto_ret]
        go_ret
        exact ⟨fun h => (by rw [HF.out] at h; cases h), fun _ => ⟨rfl, M4.out⟩⟩
      · have i3 : ¬ (now : Int) - 1 < 0 := by omega
        obtain ⟨K, hK⟩ : ∃ K, ckB kb (now - 1) a ls = K := ⟨_, rfl⟩
        have hKl : K.length = 16 := by rw [← hK]; exact ckB_len _ _ _ _
        have HO0 := Lib.hid (HO.out wr (now - 1) (by omega) Mr.out.dropb)
        rw [hK, show ((now - 1 : Nat) : Int) = (now : Int) - 1 by omega] at HO0
        have HK := Lib.hid hK
        have KL := Lib.hid hKl
        have HN0 := Lib.hid hn0
        clear hK hKl hn0
        go_wp2_with fail
        refine HO0.out.mono ?_
        rintro r w3 ⟨rfl, hb⟩
        have Mq := Lib.hid (Mst.setRow (bl := []) [] ((Mr.out.below hb).new 51 Y16) (b8a K))
        clear hb
        have HEq := Lib.hid (HQ.out _ _ K KL.out Mq.out.dropb.dropb (Mq.out.src (Src.arr (List.mem_cons_self ..) KL.out)))
        obtain ⟨D, hD⟩ : ∃ D, decide (ck = K) = D := ⟨_, rfl⟩
        rw [hD] at HEq
        have HD := Lib.hid hD
        clear hD
        go_wp2_with (first | refine wpList_store_row rfl _ _ _ rfl w3.heap.size (b8a K) rfl rfl 51 _ (Bk.mk_ _ _ Y16) (info_16 KL.out) (y16_k KL.out) (b8a_one K) ?_)
        refine HEq.out.mono ?_
        rintro r w4 ⟨rfl, hb⟩
        have Mq := Lib.hid (Mq.out.dropb.below hb)
        clear hb HEq
        cases D with
        | true =>
          have HF := Lib.hid (show freshB kb now a ls ck = true by unfold freshB; rw [HK.out, HD.out, decide_eq_true (show 0 < now by have := HN0.out; omega), Bool.true_and, Bool.or_true])
          go_wp2_with fail
          rw [Exit.noGoto_ret]
          go_ret
          exact ⟨fun _ => ⟨rfl, Mq.out.dropb⟩, fun h => by rw [HF.out] at h; cases h⟩
        | false =>
          go_wp2_with fail
          go_roundg 0
          case measure => omega
          case rel => exact ⟨2, by omega, by go_num, ⟨Mq.out⟩, fun _ => HST.out.1 (Nat.le_refl _), fun _ => ⟨by have := HN0.out; omega, by rw [HK.out]; simpa using HD.out⟩⟩
    · have HF := Lib.hid (show freshB kb now a ls ck = false by unfold freshB; rw [decide_eq_false (HST.out.1 (by decide)), decide_eq_false (HST.out.2 (Nat.le_refl _)).2, Bool.and_false]; rfl)
      go_wp2_with fail
      refine (HCT.out _ Mr.out.dropb).mono ?_
      rintro r w4 ⟨rfl, m4⟩
      have M4 := Lib.hid m4
      clear m4
      go_wp2_with fail
      rw [Exit.noGoto_ret]
      go_ret
      exact ⟨fun h => (by rw [HF.out] at h; cases h), fun _ => ⟨rfl, M4.out⟩⟩

theorem ckcheck2_nil (w : World) (v v' : Value) (a t : Int) :
    Calls Try.prog 31 #[.pointer none, v, .int .i64 a, .int .i64 t, v'] w fun e w' => e = .returned (.int .i64 11) ∧ w' = w := by
  have HC := Lib.hid (fun w => ckcheck_nil a t w)
  go_enter Try.func31, Try.ntmps31
  go_wp2_with fail
  go_step3
  go_wp2_with fail
  refine (HC.out _).mono ?_
  rintro e w1 ⟨rfl, rfl⟩
  go_wp2_with fail
  rw [Exit.noGoto_ret]
  go_ret
  exact ⟨rfl, rfl⟩
theorem ckcheck2_no (w : World) (gb : Nat) (v v' : Value) (a t : Int) (h : okCk a t = false) :
    Calls Try.prog 31 #[.pointer (some ⟨gb, 0, none⟩), v, .int .i64 a, .int .i64 t, v'] w fun e w' => e = .returned (.int .i64 10) ∧ w' = w := by
  have HC := Lib.hid (fun w => ckcheck_any gb a t w)
  rw [h] at HC
  go_enter Try.func31, Try.ntmps31
  go_wp2_with fail
  go_step3
  go_wp2_with fail
  refine (HC.out _).mono ?_
  rintro e w1 ⟨rfl, rfl⟩
  go_wp2_with fail
  rw [Exit.noGoto_ret]
  go_ret
  exact ⟨rfl, rfl⟩
theorem ckcheck2_len (w : World) (gb : Nat) (A : Option Addr) (n c : Nat) (v' : Value) (a t : Int) (h : okCk a t = true) (hn : n ≠ 16) :
    Calls Try.prog 31 #[.pointer (some ⟨gb, 0, none⟩), .slice A n c, .int .i64 a, .int .i64 t, v'] w fun e w' => e = .returned (.int .i64 3) ∧ w' = w := by
  have HC := Lib.hid (fun w => ckcheck_any gb a t w)
  rw [h] at HC
  have hne : ((n : Int) != 16) = true := by rw [bne_iff_ne]; omega
  go_enter Try.func31, Try.ntmps31
  go_wp2_with fail
  go_step3
  go_wp2_with fail
  refine (HC.out _).mono ?_
  rintro e w1 ⟨rfl, rfl⟩
  go_wp2_with fail
  rw [Exit.noGoto_ret]
  go_ret
  exact ⟨rfl, rfl⟩
end Go.Proofs.Ytiakgohipnbdbaa
