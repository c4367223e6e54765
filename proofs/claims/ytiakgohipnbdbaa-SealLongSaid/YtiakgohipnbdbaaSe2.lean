/- Package seal: contract of Stream. -/
import Derived.Test.YtiakgohipnbdbaaSe1
namespace Go.Proofs.Ytiakgohipnbdbaa
set_option linter.unusedVariables false
set_option linter.unusedSimpArgs false
open Go.RowKit

structure StL (w wr : World) (v : Value) (l : List UInt8) : Prop where
  m : Mst w wr [] [⟨5, 1, v, l.length, by8 l⟩]

set_option maxRecDepth 100000 in
set_option maxHeartbeats 1600000 in
theorem stream_any (w : World) (gk : Nat) (kb : List UInt8) (hk : KeyW w gk kb) (hkl : kb.length ≤ 1000) (A : Option Addr) (c : Nat) (nc : List UInt8) (hr : RB w w.heap.size A nc) (hn : nc.length ≤ 32) (n : Nat) (hm : n ≤ 65536) :
    Calls Try.prog 45 #[.pointer (some ⟨gk, 0, none⟩), .slice A nc.length c, .int .i64 (n : Int)] w fun e w' => ∃ A', e = .returned (.tuple #[.slice A' n n, .int .i64 0]) ∧ Below w.heap.size w w' ∧ NewB w w' A' (strB (hideK kb) nc n) := by
  have HCH := Lib.hid (scheck_ok gk A nc.length c hn)
  have HD := Lib.hid (show ∀ w', Below w.heap.size w w' → Calls Try.prog 75 #[.pointer (some ⟨gk, 0, none⟩), .string hideS, .slice none 0 0] w' fun e w2 => ∃ gk', e = .returned (.pointer (some ⟨gk', 0, none⟩)) ∧ KeyW w2 gk' (hideK kb) ∧ Below w'.heap.size w' w2 from fun w' hb => kderive_any w' gk kb (hk.keep hb) (by omega) hideS (by decide) none 0 [] ⟨Rd.nil_ _ _ _ _, by simp⟩ (by simp) (by simp))
  obtain ⟨kd, hkd⟩ : ∃ k, hideK kb = k := ⟨_, rfl⟩
  have hkdl : kd.length = 32 := by rw [← hkd]; rfl
  rw [hkd] at HD ⊢
  obtain ⟨N, hN⟩ : ∃ N, nc.length = N := ⟨_, rfl⟩
  rw [hN] at HCH hn ⊢
  have HR := Lib.hid hr
  have HN := Lib.hid hN
  have HKL := Lib.hid hkdl
  have hm0 : (0 : Int) ≤ n := by omega
  have hm1 : (n : Int) ≤ 65536 := by omega
  clear hk hr hN hkd hkdl
  go_enter Try.func45, Try.ntmps45
  go_wp2_with fail
  refine (HCH.out _).mono ?_
  rintro e w1 ⟨rfl, rfl⟩
  go_wp2_with fail
  refine (HD.out _ (Below.refl _ _)).mono ?_
  rintro e w1 ⟨gk', rfl, hk1, hb1⟩
  have HK1 := Lib.hid hk1
  have HB1 := Lib.hid hb1
  have HR1 := Lib.hid (show RB w1 w1.heap.size A nc from HR.out.keep hb1)
  clear hk1 hb1 HD HCH
  go_wp2_with fail
  go_loopg [10, 11] ((n + 31) / 32) (fun gk s10 s11 wr => ∃ k : Nat, k + gk = (n + 31) / 32 ∧ s11 = .int .i64 k ∧ StL w1 wr s10 (strK kd nc k))
  case atStart => exact ⟨0, by omega, rfl, ⟨(Mst.start w1).nilrow _ _⟩⟩
  case round =>
    obtain ⟨k, hk, rfl, ⟨hm⟩⟩ := hrel
    have hsl := strK_len kd nc k
    obtain ⟨F, hF⟩ : ∃ F, strK kd nc k = F := ⟨_, rfl⟩
    rw [hF] at hm hsl
    rw [hsl] at hm
    obtain ⟨A3, c3, rfl, _⟩ := own_form (hm.row [])
    by_cases hlt : k < (n + 31) / 32
    · have ht1 : decide (((32 * k : Nat) : Int) < (n : Int)) = true := by simp; omega
      have hk0 : k ≤ 2048 := by omega
      have HF := Lib.hid hF
      have HM := Lib.hid hm
      have m1 := hm.newrow 5 1 1 1 #[.int .u8 (N : Int)] (Nat.le_refl _) (by decide) rfl
      have M1 := Lib.hid m1
      have H4 := Lib.hid (four_any k (by omega))
      clear hF hsl hm m1
      go_wp2_with fail
      refine (H4.out _).mono ?_
      rintro e w2 ⟨g2, rfl, hf⟩
      have M2 := Lib.hid (M1.out.addr hf)
      clear hf
      go_wp2_with fail
      generalize hw3 : World.alloc w2 _ = w3
      obtain ⟨y3, m3, hp3⟩ := M2.out.ptsE [⟨some ⟨wr.heap.size, 0, none⟩, 1, [UInt8.ofNat N]⟩, ⟨A, c, nc⟩, ⟨some ⟨g2, 0, none⟩, 4, len4 k⟩] (List.forall3
        (by
          show Src w1 [] _ 1 (some ⟨wr.heap.size, 0, none⟩) 1 (by8 [UInt8.ofNat N])
          rw [show by8 [UInt8.ofNat N] = [Value.int .u8 (N : Int)] by simp [by8]; omega]
          exact M2.out.rowSrc (size := 1) (n := 1) (A := some ⟨wr.heap.size, 0, none⟩) (c := 1) (e := 5) (xs := [.int .u8 (N : Int)]) (List.mem_cons_of_mem _ (List.mem_cons_self ..)))
        (Src.old HR1.out) (M2.out.rowSrc (e := 5) (c := 4) (List.mem_cons_self ..))) (by simp only [List.map_cons, List.map_nil, Pt.v, HN.out]; rfl) (by simp) hw3
      have M3 := Lib.hid m3
      have HT := Lib.hid (show Calls Try.prog 76 #[.pointer (some ⟨gk', 0, none⟩), .slice (some ⟨w2.heap.size, 0, none⟩) 3 3] w3 fun e w' => e = .returned (.agg (b8a (strT kd nc k))) ∧ Below w3.heap.size w3 w' from by
        have := ktag_any w3 gk' kd (HK1.out.keep m3.bel) (by rw [HKL.out]; decide) _ 3 _ hp3 (by simp) (by simp [catP, HN.out, len4]; omega)
        rw [show catP [(⟨some ⟨wr.heap.size, 0, none⟩, 1, [UInt8.ofNat N]⟩ : Pt), ⟨A, c, nc⟩, ⟨some ⟨g2, 0, none⟩, 4, len4 k⟩] = UInt8.ofNat nc.length :: nc ++ len4 k by simp [catP, HN.out]] at this
        exact this)
      clear m3 hp3 hw3
      refine HT.out.mono ?_
      rintro e w4 ⟨rfl, hb4⟩
      obtain ⟨T, hT⟩ : ∃ T, strT kd nc k = T := ⟨_, rfl⟩
      have hTl : T.length = 32 := by rw [← hT]; rfl
      rw [hT]
      have HTT := Lib.hid hT
      have HTL := Lib.hid hTl
      have M4 := Lib.hid (((M3.out.below hb4).sub (ow' := [⟨5, 1, .slice A3 (32 * k) c3, 32 * k, by8 F⟩]) (List.Sublist.refl _) (by repeat (first | exact List.Sublist.refl _ | apply List.Sublist.cons))).arr32 T)
      clear hb4 hT hTl
      go_wp2_with (first | refine wpList_store_row rfl _ _ _ rfl w4.heap.size (b8a T) rfl rfl 119 _ (Bk.mk_ _ _ _) (info_k HTL.out) (y32_k HTL.out) (b8a_one T) ?_ | (at_builtin; refine wpList_appE rfl _ _ 24 rfl [] M4.out el_u8c rfl _ (some ⟨w4.heap.size, 0, none⟩) 32 32 (by8 T) rfl (M4.out.src (Src.arr (List.mem_cons_self ..) HTL.out)) (by8_one _) (by unfold maxLen; omega) (by omega) ?_; intro A5 c5 w5 N5 X5 hn5 hx5 mq; have M5 := Lib.hid mq; have HN5 := Lib.hid hn5; have HX5 := Lib.hid hx5; clear mq hn5 hx5))
      go_roundg ((n + 31) / 32 - (k + 1))
      case measure => exact meas hk hlt
      case rel => exact ⟨k + 1, meas2 hlt, by go_num, ⟨by
        have e1 := strK_succ kd nc k
        rw [HF.out, HTT.out] at e1
        have h1 : N5 = (F ++ T).length := by rw [HN5.out, List.length_append, HTL.out, ← HF.out, strK_len]
        have h2 : X5 = by8 (F ++ T) := by rw [HX5.out, by8_append]
        rw [e1, ← h1, ← h2]
        exact M5.out.sub (List.nil_sublist _) (List.Sublist.refl _)⟩⟩
    · obtain rfl : k = (n + 31) / 32 := by omega
      have ht1 : decide (((32 * ((n + 31) / 32) : Nat) : Int) < (n : Int)) = false := by simp; omega
      have hc3 : n ≤ c3 := by
        rcases (hm.row []).2 with ⟨h1, h2⟩ | ⟨g, cap, cur, h1, _, _, h4, _⟩
        · omega
        · injection h1 with _ _ h1
          omega
      have hc4 : (n : Int) ≤ c3 := by omega
      have HNB := Lib.hid (show NewB w1 wr A3 (strB kd nc n) from by
        rw [strB, hF]
        exact (NewB.of_own (hm.row [])).take n)
      have HB2 := Lib.hid (Bsz HB1.out hm.bel)
      clear hm
      go_wp2_with fail
      go_ret2
      exact ⟨A3, rfl, HB2.out, HNB.out.base HB1.out.size⟩

set_option maxRecDepth 100000 in
theorem stream_arg (w : World) (gk : Nat) (A : Option Addr) (N c : Nat) (n : Int) (h : 32 < N) :
    Calls Try.prog 45 #[.pointer (some ⟨gk, 0, none⟩), .slice A N c, .int .i64 n] w fun e w' => e = .returned (.tuple #[.slice none 0 0, .int .i64 1]) ∧ w = w' := by
  have HCH := Lib.hid (scheck_no gk A N c h)
  clear h
  go_enter Try.func45, Try.ntmps45
  go_wp2_with fail
  refine (HCH.out _).mono ?_
  rintro e w1 ⟨rfl, rfl⟩
  go_wp2
  go_ret2
  exact ⟨rfl, rfl⟩
set_option maxRecDepth 100000 in
theorem stream_neg (w : World) (gk : Nat) (A : Option Addr) (N c : Nat) (n : Int) (h : N ≤ 32) (hn : n < 0) :
    Calls Try.prog 45 #[.pointer (some ⟨gk, 0, none⟩), .slice A N c, .int .i64 n] w fun e w' => e = .returned (.tuple #[.slice none 0 0, .int .i64 1]) ∧ w = w' := by
  have HCH := Lib.hid (scheck_ok gk A N c h)
  have ht : decide (n < 0) = true := by simp; omega
  clear h
  go_enter Try.func45, Try.ntmps45
  go_wp2_with fail
  refine (HCH.out _).mono ?_
  rintro e w1 ⟨rfl, rfl⟩
  go_wp2
  go_ret2
  exact ⟨rfl, rfl⟩
set_option maxRecDepth 100000 in
theorem stream_long (w : World) (gk : Nat) (A : Option Addr) (N c : Nat) (n : Int) (h : N ≤ 32) (hn : 65536 < n) :
    Calls Try.prog 45 #[.pointer (some ⟨gk, 0, none⟩), .slice A N c, .int .i64 n] w fun e w' => e = .returned (.tuple #[.slice none 0 0, .int .i64 2]) ∧ w = w' := by
  have HCH := Lib.hid (scheck_ok gk A N c h)
  have ht : decide (n < 0) = false := by simp; omega
  have ht2 : decide (65536 < n) = true := by simp; omega
  clear h
  go_enter Try.func45, Try.ntmps45
  go_wp2_with fail
  refine (HCH.out _).mono ?_
  rintro e w1 ⟨rfl, rfl⟩
  go_wp2
  go_ret2
  exact ⟨rfl, rfl⟩
set_option maxRecDepth 100000 in
theorem stream_nil (w : World) (A : Option Addr) (N c : Nat) (n : Int) :
    Calls Try.prog 45 #[.pointer none, .slice A N c, .int .i64 n] w fun e w' => e = .returned (.tuple #[.slice none 0 0, .int .i64 1]) ∧ w = w' := by
  have HCH := Lib.hid (scheck_nil A N c)
  go_enter Try.func45, Try.ntmps45
  go_wp2_with fail
  refine (HCH.out _).mono ?_
  rintro e w1 ⟨rfl, rfl⟩
  go_wp2
  go_ret2
  exact ⟨rfl, rfl⟩
end Go.Proofs.Ytiakgohipnbdbaa
