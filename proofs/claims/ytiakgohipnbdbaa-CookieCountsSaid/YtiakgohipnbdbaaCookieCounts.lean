/-
  vigillaw10.CookieCounts returns true, whatever it is called with. Conditions: none but that the slices can be read.
-/
import Derived.Test.YtiakgohipnbdbaaCk7
import Derived.Test.YtiakgohipnbdbaaExt
import Derived.Test.YtiakgohipnbdbaaMod
namespace Go.Proofs.Ytiakgohipnbdbaa
set_option linter.unusedVariables false
set_option linter.unusedSimpArgs false
open Go.RowKit

abbrev CkBl (ga gA gb gB : Nat) (x y : Int) (KN : Nat) (A2 A4 : Option Addr) (c2 c4 : Nat) : Bl :=
  [(ga, 117, bkc x y gA), (gA, 128, #[.slice A2 KN c2]), (gb, 117, bkc 0 0 gB), (gB, 128, #[.slice A4 KN c4])]
structure CcR (W wr : World) (ga gA gb gB : Nat) (x y : Int) (KN : Nat) (A2 A4 : Option Addr) (c2 c4 : Nat) (OW : List Ro) : Prop where
  m : Mst W wr (CkBl ga gA gb gB x y KN A2 A4 c2 c4) OW
theorem freshB_same (kb : List UInt8) (now a : Nat) (ls : List (List UInt8)) : freshB kb now a ls (ckB kb now a ls) = true := by simp [freshB]
theorem pts_nil (w : World) : Pts w none [] := ⟨Rd.nil_ _ _ _ _, by simp⟩

set_option maxRecDepth 100000 in
set_option maxHeartbeats 6400000 in
theorem cookieCounts_main (W : World) (A C : Option Addr) (c n f : Nat) (l : List UInt8) (zs : List Int) (hr : RB W W.heap.size A l) (hc : l.length ≤ c ∧ c ≤ 9223372036854775807) (hz : Flat 1 W C n zs) (hf : n ≤ f ∧ f ≤ 9223372036854775807) :
    Calls Try.prog 6 #[.slice A l.length c, .slice C n f] W fun e W' => e = .returned (.bool true) ∧ Below W.heap.size W W' := by
  have HBK := Lib.hid (show ∀ w', Below W.heap.size W w' → _ from fun w' hb => baker_any w' A c l ((hr.below hb).more hb.size) hc)
  obtain ⟨N, hN⟩ : ∃ N, l.length = N := ⟨_, rfl⟩
  have hkl := keyL_len l
  obtain ⟨kb, hkb⟩ : ∃ k, keyL l = k := ⟨_, rfl⟩
  rw [hkb] at HBK hkl
  obtain ⟨KN, hKN⟩ : ∃ N, kb.length = N := ⟨_, rfl⟩
  rw [hKN] at HBK hkl
  have hk70 : KN ≤ 70 := by omega
  have HKN := Lib.hid hKN
  rw [hN] at HBK hc ⊢
  have hzl := hz.length
  have HZ := Lib.hid hz
  have HZL := Lib.hid hzl
  obtain ⟨m, hm, m2, m1⟩ := cut_n n 12
  have hKN70 : kb.length ≤ 1000 := by omega
  have hm0 := Lib.hid (show m = n ∨ m = 12 from by omega)
  clear hr hN hkl hkb hz hzl hm
  go_enter Try.func6, Try.ntmps6
  go_wp2_with fail
  refine (HBK.out _ (Below.refl _ _)).mono ?_
  rintro e w1 ⟨ga, gA, A1, c1, A2, c2, rfl, mq⟩
  have Mq := Lib.hid mq
  clear mq
  go_wp2_with fail
  refine (HBK.out _ Mq.out.bel).mono ?_
  rintro e w2 ⟨gb, gB, A3, c3, A4, c4, rfl, mq⟩
  have Mq := Lib.hid (Mq.out.join mq)
  obtain ⟨OW, hOW⟩ : ∃ b : List Ro, [⟨5, 1, .slice A4 KN c4, KN, by8 kb⟩, ⟨5, 1, .slice A3 KN c3, KN, by8 kb⟩, ⟨5, 1, .slice A2 KN c2, KN, by8 kb⟩, ⟨5, 1, .slice A1 KN c1, KN, by8 kb⟩] = b := ⟨_, rfl⟩
  have Mq := Lib.hid (show CcR W w2 ga gA gb gB 0 0 KN A2 A4 c2 c4 OW from ⟨by rw [← hOW]; exact Mq.out.perm (List.perm_append_comm (l₁ := [_, _]) (l₂ := [_, _])) (List.Perm.refl _)⟩)
  have SA := Lib.hid (show Src W [] OW 1 A2 KN (by8 kb) from (Mq.out.m.sub (List.nil_sublist _) (List.Sublist.refl _)).rowSrc (e := 5) (c := c2) (by rw [← hOW]; simp))
  have SB := Lib.hid (show Src W [] OW 1 A4 KN (by8 kb) from (Mq.out.m.sub (List.nil_sublist _) (List.Sublist.refl _)).rowSrc (e := 5) (c := c4) (by rw [← hOW]; simp))
  clear mq HBK hOW
  have HBA := Lib.hid (show ∀ w' (x y : Nat) (a t : Nat), a < 65536 → t ≤ 1073741824 → x < 2147483647 → CcR W w' ga gA gb gB x y KN A2 A4 c2 c4 OW → Calls Try.prog 28 #[.pointer (some ⟨ga, 0, none⟩), .int .i64 (a : Int), .int .i64 (t : Int), .slice none 0 0] w' fun e w2 =>
      e = .returned (.tuple #[.agg (b8a (ckB kb (t / 64) a [])), .int .i64 0]) ∧ CcR W w2 ga gA gb gB (x + 1) y KN A2 A4 c2 c4 OW from fun w' x y a t ha ht hx h => by
    refine (bake_any W w' _ OW ga gA x y kb h.m (by omega) (fun w' x y h => h.key (List.mem_cons_of_mem _ (List.mem_cons_self ..)) HKN.out (SA.out.sub (fun _ h => absurd h List.not_mem_nil) (fun _ h => h))) none 0 [] (fun w' x y h => pts_nil w') (by simp) (by simp) a t ha ht (by omega) (by omega)).mono ?_
    rintro e w2 ⟨h1, h2⟩
    exact ⟨h1, ⟨h2⟩⟩)
  have HCA := Lib.hid (show ∀ w' g (x y : Nat) (a t : Nat) (ck : List UInt8), a < 65536 → t ≤ 1073741824 → y < 2147483647 → ck.length = 16 → Mst W w' ((g, 51, b8a ck) :: CkBl ga gA gb gB x y KN A2 A4 c2 c4) OW → Calls Try.prog 31 #[.pointer (some ⟨ga, 0, none⟩), .slice (some ⟨g, 0, none⟩) 16 16, .int .i64 (a : Int), .int .i64 (t : Int), .slice none 0 0] w' fun e w2 =>
      (freshB kb (t / 64) a [] ck = true → e = .returned (.int .i64 0) ∧ CcR W w2 ga gA gb gB x y KN A2 A4 c2 c4 OW) ∧ (freshB kb (t / 64) a [] ck = false → e = .returned (.int .i64 9) ∧ CcR W w2 ga gA gb gB x (y + 1) KN A2 A4 c2 c4 OW) from fun w' g x y a t ck ha ht hy hck h => by
    refine (ckcheck_M W w' _ OW ga gA x y kb (h.frontb [_]) (by omega) (fun w' x y h => h.key (List.mem_cons_of_mem _ (List.mem_cons_of_mem _ (List.mem_cons_self ..))) HKN.out (SA.out.sub (fun _ h => absurd h List.not_mem_nil) (fun _ h => h))) none 0 [] (fun w' x y h => pts_nil w') (by simp) (by simp) a t ha ht (by omega) (by omega) (some ⟨g, 0, none⟩) 16 ck (fun w' x y h => by unfold RB; rw [hck]; exact h.src (Src.arr (t := 51) (List.mem_cons_of_mem _ (List.mem_cons_self ..)) hck)) hck).mono ?_
    rintro e w2 ⟨h1, h2⟩
    exact ⟨fun h => ⟨(h1 h).1, ⟨((h1 h).2.backb [_]).dropb⟩⟩, fun h => ⟨(h2 h).1, ⟨((h2 h).2.backb [_]).dropb⟩⟩⟩)
  have HCB := Lib.hid (show ∀ w' g (x y : Nat) (a t : Nat) (ck : List UInt8), a < 65536 → t ≤ 1073741824 → ck = ckB kb (t / 64) a [] → Mst W w' ((g, 51, b8a ck) :: CkBl ga gA gb gB x y KN A2 A4 c2 c4) OW → Calls Try.prog 31 #[.pointer (some ⟨gb, 0, none⟩), .slice (some ⟨g, 0, none⟩) 16 16, .int .i64 (a : Int), .int .i64 (t : Int), .slice none 0 0] w' fun e w2 =>
      e = .returned (.int .i64 0) ∧ Mst W w2 ((g, 51, b8a ck) :: CkBl ga gA gb gB x y KN A2 A4 c2 c4) OW from fun w' g x y a t ck ha ht hck h => by
    have hcl : ck.length = 16 := by rw [hck]; exact ckB_len _ _ _ _
    refine (ckcheck_M W w' _ OW gb gB 0 0 kb (h.frontb [_, _, _]) (by omega) (fun w' x y h => h.key (List.mem_cons_of_mem _ (List.mem_cons_of_mem _ (List.mem_cons_of_mem _ (List.mem_cons_of_mem _ (List.mem_cons_self ..))))) HKN.out (SB.out.sub (fun _ h => absurd h List.not_mem_nil) (fun _ h => h))) none 0 [] (fun w' x y h => pts_nil w') (by simp) (by simp) a t ha ht (by omega) (by omega) (some ⟨g, 0, none⟩) 16 ck (fun w' x y h => by unfold RB; rw [hcl]; exact h.src (Src.arr (t := 51) (List.mem_cons_of_mem _ (List.mem_cons_self ..)) hcl)) hcl).mono ?_
    rintro e w2 ⟨h1, h2⟩
    have hfr : freshB kb (t / 64) a (List.map Pt.l []) ck = true := by rw [hck]; exact freshB_same _ _ _ _
    exact ⟨(h1 hfr).1, (h1 hfr).2.backb [_, _, _]⟩)
  have HTA := Lib.hid (show ∀ w' (x y : Nat), x ≤ 100 → y ≤ 100 → CcR W w' ga gA gb gB x y KN A2 A4 c2 c4 OW → _ from fun w' x y hx hy h => counts_any w' ga gA x y (by omega) (by omega) (h.m.blk []))
  have HTB := Lib.hid (show ∀ w' x y, CcR W w' ga gA gb gB x y KN A2 A4 c2 c4 OW → _ from fun w' x y h => counts_any w' gb gB 0 0 (by omega) (by omega) (h.m.blk [_, _]))
  have ST := fun (x : UInt8) p w => Bv_store (P := Try.prog) x w p
  have SC := fun x => (Value.cells.eq_def (Bv x)).symm.trans (Bv_cells x)
  have BX := fun x w => (show (binOp .xor 5 (Bv x) (.int .u8 1)).run Try.prog w = .ok (Bv (x ^^^ 1)) w from Bv_xor (P := Try.prog) 5 x 1 w)
  clear SA SB hKN70 hKN
  go_wp2_with fail
  go_loopg [9, 10, 11] m (fun gk s9 s10 s11 wr => ∃ k y : Nat, k + gk = m ∧ y ≤ k ∧ s9 = .int .i64 k ∧ s10 = .int .i64 y ∧ s11 = .int .i64 k ∧ CcR W wr ga gA gb gB k y KN A2 A4 c2 c4 OW)
  case atStart => exact ⟨0, 0, by omega, by omega, rfl, rfl, rfl, Mq.out⟩
  case round =>
    obtain ⟨k, y, hk, hy, rfl, rfl, rfl, hR⟩ := hrel
    by_cases hlt : k < m
    · have HR := Lib.hid hR
      obtain ⟨b, o, rfl, hbw, hcell⟩ := HZ.out.1.2 (by omega)
      obtain ⟨z, hzk⟩ : ∃ z, zs[k]? = some z := ⟨_, List.getElem?_eq_getElem (by have := HZL.out; omega)⟩
      have e0 := hR.m.old hbw (hcell k (.int .i64 z) (by simp [hzk]))
      obtain ⟨a0, ha, ha0, ha1⟩ := mod_any z 9 (by omega) (by omega)
      obtain ⟨t0, ht, ht0, ht1⟩ := mod_any z 500 (by omega) (by omega)
      obtain ⟨a, rfl⟩ : ∃ T : Nat, a0 = (T : Int) := ⟨a0.toNat, by omega⟩
      obtain ⟨t, rfl⟩ : ∃ T : Nat, t0 = (T : Int) := ⟨t0.toNat, by omega⟩
      clear hcell hzk hR
      have hk1 : k < n := by omega
      have hk2 : k < 12 := by omega
      go_wp2_with fail
      go_quiet (fail)
      have HRd := Lib.hid (show CcR W (wr.drewN nq) ga gA gb gB k y KN A2 A4 c2 c4 OW from ⟨HR.out.m.drewN nq⟩)
      simp only [ha, ht]
      clear ha ht e0 HR
      have hcl : (ckB kb (t / 64) a []).length = 16 := ckB_len _ _ _ _
      have HBN := HBA.out (wr.drewN nq) k y a t (by omega) (by omega) (by omega) HRd.out
      obtain ⟨K, hK⟩ : ∃ K, ckB kb (t / 64) a [] = K := ⟨_, rfl⟩
      rw [hK] at HBN hcl
      have HBN := Lib.hid HBN
      have KL := Lib.hid hcl
      have HK := Lib.hid hK
      clear hK hcl
      go_wp2_with fail
      refine HBN.out.mono ?_
      rintro e w3 ⟨rfl, ⟨m3⟩⟩
      have M3 := Lib.hid (Mst.setRow (bl := []) [] (m3.new 51 Y16) (b8a K))
      clear m3 HBN
      go_wp2_with (first | refine wpList_store_row rfl _ _ _ rfl w3.heap.size (b8a K) rfl rfl 51 _ (Bk.mk_ _ _ Y16) (info_16 KL.out) (y16_k KL.out) (b8a_one K) ?_)
      obtain ⟨g3, hg3⟩ : ∃ g, w3.heap.size = g := ⟨_, rfl⟩
      have M3 := Lib.hid (by have := M3.out; rw [hg3] at this; exact this)
      rw [hg3]
      generalize hw4 : World.setRow _ _ _ = w4
      have M4 := Lib.hid (show Mst W w4 ((g3, 51, b8a K) :: CkBl ga gA gb gB ((k + 1 : Nat) : Int) y KN A2 A4 c2 c4) OW from by
        rw [show ((k + 1 : Nat) : Int) = (k : Int) + 1 by omega]
        exact M3.out.toW hw4 rfl)
      clear hw4 M3 hg3
      have HCN := Lib.hid (HCB.out w4 g3 (k + 1) y a t K (by omega) (by omega) HK.out.symm M4.out)
      refine HCN.out.mono ?_
      rintro e w5 ⟨rfl, m5⟩
      have M5 := Lib.hid m5
      have hkn : k < K.length := by rw [KL.out]; omega
      have f5 := (m5.blk []).fr k
      have c5 : w5.cell? ⟨g3, k, none⟩ = some (Bv (K.getD k 0)) := ((m5.blk []).cell k).trans (b8a_get hkn)
      obtain ⟨x, hx⟩ : ∃ x, K.getD k 0 = x := ⟨_, rfl⟩
      rw [hx] at c5
      clear hx m5 hkn
      go_wp2_with fail
      generalize hw6 : World.setCell _ _ _ = w6
      have hl6 : (K.set k (x ^^^ 1)).length = 16 := by rw [List.length_set]; exact KL.out
      have m6 := (M5.out.put [] k (Bv (x ^^^ 1))).toW hw6 rfl
      rw [show Bv (x ^^^ 1) = .int .u8 ((x ^^^ 1).toNat : Int) from rfl, b8a_set] at m6
      have HCN := HCA.out w6 g3 (k + 1) y a t (K.set k (x ^^^ 1)) (by omega) (by omega) (by omega) hl6 m6
      obtain ⟨fr, hfr⟩ : ∃ b, freshB kb (t / 64) a [] (K.set k (x ^^^ 1)) = b := ⟨_, rfl⟩
      rw [hfr] at HCN
      have HCN := Lib.hid HCN
      clear hw6 hl6 m6 hfr f5 c5
      refine HCN.out.mono ?_
      rintro e w7 ⟨h1, h2⟩
      cases fr with
      | true =>
        obtain ⟨rfl, m7⟩ := h1 rfl
        have M7 := Lib.hid m7
        clear h1 h2 m7
        have HT := HTA.out w7 (k + 1) y (by omega) (by omega) M7.out
        rw [show ((k + 1 : Nat) : Int) = (k : Int) + 1 by omega] at HT
        have HT := Lib.hid HT
        go_wp2_with fail
        refine HT.out.mono ?_
        rintro e w8 ⟨rfl, hb⟩
        have M8 := Lib.hid (M7.out.m.below hb)
        clear hb
        go_wp2_with fail
        go_roundg (m - (k + 1))
        case measure => exact meas hk hlt
        case rel => exact ⟨k + 1, y, meas2 hlt, by omega, by go_num, by go_num, by go_num, ⟨M8.out⟩⟩
      | false =>
        obtain ⟨rfl, m7⟩ := h2 rfl
        have M7 := Lib.hid (show CcR W w7 ga gA gb gB ((k + 1 : Nat) : Int) ((y + 1 : Nat) : Int) KN A2 A4 c2 c4 OW from by
          rw [show ((y + 1 : Nat) : Int) = (y : Int) + 1 by omega]
          exact m7)
        clear h1 h2 m7
        have HT := HTA.out w7 (k + 1) (y + 1) (by omega) (by omega) M7.out
        rw [show ((k + 1 : Nat) : Int) = (k : Int) + 1 by omega, show ((y + 1 : Nat) : Int) = (y : Int) + 1 by omega] at HT
        have HT := Lib.hid HT
        go_wp2_with fail
        refine HT.out.mono ?_
        rintro e w8 ⟨rfl, hb⟩
        have M8 := Lib.hid (M7.out.m.below hb)
        clear hb
        go_wp2_with fail
        go_roundg (m - (k + 1))
        case measure => exact meas hk hlt
        case rel => exact ⟨k + 1, (y + 1), meas2 hlt, by omega, by go_num, by go_num, by go_num, ⟨M8.out⟩⟩
    · have hend : ¬ (k < n ∧ k < 12) := by
        have := hm0.out
        omega
      have HB2 := Lib.hid (HTB.out wr _ _ hR)
      have M1 := Lib.hid hR
      clear hR
      by_cases hkn : k < n
      all_goals
        have hk12 : k < n → ¬ k < 12 := fun h => by omega
        first | (have hk12 := hk12 hkn) | clear hk12
        clear hend
        go_wp2_with fail
        refine HB2.out.mono ?_
        rintro e w7 ⟨rfl, hb⟩
        have M7 := Lib.hid (M1.out.m.below hb)
        clear hb
        go_wp2_with fail
        refine (known10 _).mono ?_
        rintro e w8 ⟨rfl, hb⟩
        have M8 := Lib.hid (M7.out.below hb)
        clear hb
        go_wp2
        go_ret
        exact ⟨rfl, M8.out.bel⟩
theorem contract_cookieCounts (W : World) (v0 v1 : Value) (a0 : ∃ r : Rw, v0 = r.v ∧ r.ok .u8 W) (a1 : ∃ A n c zs, v1 = .slice A n c ∧ n ≤ c ∧ c ≤ maxLen ∧ Flat 1 W A n zs) :
    Calls Try.prog 6 #[v0, v1] W fun e W' => e = .returned (.bool true) ∧ Below W.heap.size W W' := by
  obtain ⟨r, rfl, hr⟩ := a0
  obtain ⟨C, n, f, zs, rfl, hnc, hc, hf⟩ := a1
  obtain ⟨l, e, g1, g2, g3⟩ := rw_pt hr
  rw [e]
  exact cookieCounts_main W r.A C r.c n f l zs g1 ⟨g2, g3⟩ hf ⟨hnc, by unfold maxLen at hc; omega⟩
end Go.Proofs.Ytiakgohipnbdbaa
