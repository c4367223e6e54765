/- Contracts of the tenth chapter's law: Baker; the chapter's example. -/
import Derived.Test.YtiakgohipnbdbaaCk6
namespace Go.Proofs.Ytiakgohipnbdbaa
set_option linter.unusedVariables false
set_option linter.unusedSimpArgs false
open Go.RowKit

set_option maxRecDepth 100000 in
set_option maxHeartbeats 1000000 in
theorem baker_any (w : World) (A : Option Addr) (c : Nat) (l : List UInt8) (hr : RB w w.heap.size A l) (hc : l.length ≤ c ∧ c ≤ 9223372036854775807) :
    Calls Try.prog 26 #[.slice A l.length c] w fun e w' => ∃ gb gk A1 c1 A2 c2, e = .returned (.tuple #[.pointer (some ⟨gb, 0, none⟩), .slice A1 (keyL l).length c1]) ∧
      Mst w w' [(gb, 117, bkc 0 0 gk), (gk, 128, #[.slice A2 (keyL l).length c2])] [⟨5, 1, .slice A2 (keyL l).length c2, (keyL l).length, by8 (keyL l)⟩, ⟨5, 1, .slice A1 (keyL l).length c1, (keyL l).length, by8 (keyL l)⟩] := by
  have HK := Lib.hid (key10_any w A c l hr hc)
  obtain ⟨N, hN⟩ : ∃ N, l.length = N := ⟨_, rfl⟩
  have hkl := keyL_len l
  obtain ⟨M, hM⟩ : ∃ N, (keyL l).length = N := ⟨_, rfl⟩
  have HNW := Lib.hid (fun (W w' : World) bl ow A c hm hr => cknew_M W w' bl ow hm A c (keyL l) hr (by omega) (by omega))
  rw [hM] at hkl HNW HK ⊢
  rw [hN] at HK ⊢
  have HMM := Lib.hid hM
  clear hr hM hN hc hkl
  go_enter Try.func26, Try.ntmps26
  go_wp2_with fail
  refine HK.out.mono ?_
  rintro e w1 ⟨A1, c1, rfl, m1⟩
  have M1 := Lib.hid m1
  clear m1
  go_wp2_with fail
  refine (HNW.out w w1 _ _ A1 c1 M1.out (by unfold RB; rw [HMM.out]; exact M1.out.src (M1.out.rowSrc (List.mem_cons_self ..)))).mono ?_
  rintro e w2 ⟨gb, gk, A2, c2, rfl, m2⟩
  have M2 := Lib.hid m2
  clear m2
  go_wp2
  go_ret2
  exact ⟨gb, gk, A1, c1, A2, c2, rfl, M2.out⟩

/-- The chapter's example, reckoned by the kernel. -/
theorem ck_stale : freshB (List.replicate 16 0) 3 5 [] (ckB (List.replicate 16 0) 1 5 []) = false := by kernel_rfl
theorem ck_fresh : freshB (List.replicate 16 0) 2 5 [] (ckB (List.replicate 16 0) 1 5 []) = true := by
  unfold freshB
  simp
set_option maxRecDepth 100000 in
set_option maxHeartbeats 1000000 in
theorem known10 (w : World) : Calls Try.prog 30 #[] w fun e w' => e = .returned (.bool true) ∧ Below w.heap.size w w' := by
  obtain ⟨zk, hzk⟩ : ∃ z, List.replicate 16 (0 : UInt8) = z := ⟨_, rfl⟩
  have hzl : zk.length = 16 := by rw [← hzk]; rfl
  have hF1 := ck_fresh
  have hF2 := ck_stale
  rw [hzk] at hF1 hF2
  obtain ⟨K, hK⟩ : ∃ K, ckB zk 1 5 [] = K := ⟨_, rfl⟩
  have hKl : K.length = 16 := by rw [← hK]; exact ckB_len _ _ _ _
  rw [hK] at hF1 hF2
  obtain ⟨z, hz⟩ : ∃ z, b8a zk = z := ⟨_, rfl⟩
  have hmk : ∀ w, (Instr.makeSlice 24 (.int .i64 16) (.int .i64 16)).run Try.prog w = .ok (.slice (some ⟨w.heap.size, 0, none⟩) 16 16) (w.alloc (.cells z 5)) := fun w => by
    have := make_u8 16 (by decide) w
    rw [hzk, hz] at this
    exact this
  have M1 := Lib.hid ((Mst.start w).new 5 z)
  have HNW := Lib.hid (show Calls Try.prog 38 #[.slice (some ⟨w.heap.size, 0, none⟩) 16 16] (w.alloc (.cells z 5)) _ from by
    have := cknew_M w _ _ _ M1.out (some ⟨w.heap.size, 0, none⟩) 16 zk (by unfold RB; rw [hzl]; exact M1.out.src (Src.arr (t := 5) (by rw [hz]; exact List.mem_cons_self ..) hzl)) (by omega) (by omega)
    rw [hzl] at this
    exact this)
  have KL := Lib.hid hKl
  have HK := Lib.hid hK
  have HF1 := Lib.hid hF1
  have HF2 := Lib.hid hF2
  have HZL := Lib.hid hzl
  clear hzk hzl hK hKl hz hF1 hF2
  go_enter Try.func30, Try.ntmps30
  go_wp2_with fail
  refine HNW.out.mono ?_
  rintro e w2 ⟨gb, gk, A', c', rfl, m2⟩
  have M2 := Lib.hid m2
  clear m2
  have HKW := Lib.hid (show ∀ w' bl x y ow, Mst w w' ((gb, 117, bkc x y gk) :: bl) ow → (∀ z ∈ [(gk, 128, #[Value.slice A' 16 c'])], z ∈ bl) → (∀ z ∈ [(⟨5, 1, .slice A' 16 c', 16, by8 zk⟩ : Ro)], z ∈ ow) → KeyW w' gk zk from fun w' bl x y ow h h1 h2 =>
    h.key (List.mem_cons_of_mem _ (h1 _ (List.mem_singleton_self _))) HZL.out (h.rowSrc (h2 _ (List.mem_singleton_self _))))
  have HBK := Lib.hid (bake_any w w2 _ _ gb gk 0 0 zk M2.out (by rw [HZL.out]; decide) (fun w' x y h => HKW.out w' _ x y _ h (by simp) (by simp)) none 0 [] (fun w' x y h => ⟨Rd.nil_ _ _ _ _, by simp⟩) (by simp) (by simp) 5 70 (by decide) (by decide) (by decide) (by decide))
  go_wp2_with fail
  refine HBK.out.mono ?_
  rintro e w3 ⟨rfl, m3⟩
  rw [show ckB zk (70 / 64) 5 (([] : List Pt).map Pt.l) = K from HK.out]
  have M3 := Lib.hid (Mst.setRow (bl := []) [] (m3.new 51 Y16) (b8a K))
  clear m3 HNW HBK
  go_wp2_with (first | refine wpList_store_row rfl _ _ _ rfl w3.heap.size (b8a K) rfl rfl 51 _ (Bk.mk_ _ _ Y16) (info_16 KL.out) (y16_k KL.out) (b8a_one K) ?_)
  generalize hw4 : World.setRow _ _ _ = w4
  have M4 := Lib.hid ((M3.out.toW hw4 rfl).perm (List.Perm.swap _ _ _) (List.Perm.refl _))
  clear hw4 M3
  have HC1 := Lib.hid (ckcheck_M w w4 _ _ gb gk (0 + 1) 0 zk M4.out (by rw [HZL.out]; decide) (fun w' x y h => HKW.out w' _ x y _ h (by simp) (by simp)) none 0 [] (fun w' x y h => ⟨Rd.nil_ _ _ _ _, by simp⟩) (by simp) (by simp) 5 191 (by decide) (by decide) (by decide) (by decide)
    (some ⟨w3.heap.size, 0, none⟩) 16 K (fun w' x y h => by unfold RB; rw [KL.out]; exact h.src (Src.arr (t := 51) (by simp) KL.out)) KL.out)
  refine HC1.out.mono ?_
  rintro e w5 ⟨h5, -⟩
  obtain ⟨rfl, m5⟩ := h5 HF1.out
  have M5 := Lib.hid m5
  clear h5 m5 HC1
  have HC2 := Lib.hid (ckcheck_M w w5 _ _ gb gk (0 + 1) 0 zk M5.out (by rw [HZL.out]; decide) (fun w' x y h => HKW.out w' _ x y _ h (by simp) (by simp)) none 0 [] (fun w' x y h => ⟨Rd.nil_ _ _ _ _, by simp⟩) (by simp) (by simp) 5 192 (by decide) (by decide) (by decide) (by decide)
    (some ⟨w3.heap.size, 0, none⟩) 16 K (fun w' x y h => by unfold RB; rw [KL.out]; exact h.src (Src.arr (t := 51) (by simp) KL.out)) KL.out)
  go_wp2_with fail
  refine HC2.out.mono ?_
  rintro e w6 ⟨-, h6⟩
  obtain ⟨rfl, m6⟩ := h6 HF2.out
  have M6 := Lib.hid m6
  clear h6 m6 HC2
  go_wp2
  go_ret
  exact ⟨rfl, M6.out.bel⟩
end Go.Proofs.Ytiakgohipnbdbaa
