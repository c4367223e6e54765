/-
  vigillaw05.ClaimsReads returns true, whatever it is called with. Conditions: none but that the argument is a slice of bytes that can be read.
-/
import Derived.Test.YthnaobolmgcclaaCl6
import Derived.Test.YthnaobolmgcclaaRf6
import Derived.Test.YthnaobolmgcclaaKn05
import Derived.Test.YthnaobolmgcclaaOpen2
import Derived.Deep.DeepCutAuto
import Derived.Deep.RegionHeld3
import Derived.BigQuiet
namespace Go.Proofs.Ythnaobolmgcclaa
set_option linter.unusedVariables false
open Go.RowKit

theorem slice_n {A : Option Addr} {n m c : Nat} (h : n = m) : Value.slice A n c = .slice A m c := by rw [h]
theorem RB.take {w : World} {B : Nat} {A : Option Addr} {l : List UInt8} (h : RB w B A l) (N : Nat) : RB w B A (l.take N) := by
  refine ⟨by simp [by8], fun hn => ?_⟩
  obtain ⟨b, o, e, hb, hc⟩ := h.2 (by simp at hn; omega)
  refine ⟨b, o, e, hb, fun j u hu => hc j u ?_⟩
  rw [by8_take, List.getElem?_take] at hu
  split at hu
  · exact hu
  · cases hu

theorem ne4 (i r x s : Int) (w : World) : (binOp .neq 91 (.agg #[.int .i64 i, .int .i64 r, .int .i64 x, .int .i64 s]) (.agg #[.int .i64 i, .int .i64 r, .int .i64 x, .int .i64 s])).run Try.prog w = .ok (.bool false) w := by
  go_simp

set_option maxRecDepth 100000 in
set_option maxHeartbeats 8000000 in
theorem claimsReads_main (W : World) (A : Option Addr) (n c : Nat) (l0 : List UInt8) (hl0 : l0.length = n) (hr : RB W W.heap.size A l0) (hnc : n ≤ c) (hcm : c ≤ 9223372036854775807) :
    Calls Try.prog 13 #[.slice A n c] W fun e W' => e = .returned (.bool true) ∧ Below W.heap.size W W' := by
  obtain ⟨N, hN, hN1, hN2⟩ : ∃ N : Nat, (N = n ∨ N = 20) ∧ N ≤ n ∧ N ≤ 20 := ⟨min n 20, by omega, by omega, by omega⟩
  have hN3 : N ≤ c := by omega
  obtain ⟨l, hl⟩ : ∃ l, l0.take N = l := ⟨_, rfl⟩
  have hl2 : l.length = N := by rw [← hl]; simp; omega
  have HL := Lib.hid (show RB W W.heap.size A l from by rw [← hl]; exact hr.take N)
  have HZ := Lib.hid hl2
  have HN := Lib.hid hN
  clear hr hl hl0 hN hl2
  go_enter Try.func13, Try.ntmps13
  go_upto_region 1 with fail
  go_cut [0] (fun s0 w => s0 = .slice A N c ∧ W = w)
  case first =>
    go_wp2_with fail
    all_goals
      go_meet
      exact ⟨slice_n (by have := HN.out; omega), rfl⟩
  case rest =>
    obtain ⟨rfl, rfl⟩ := hcut
    have hq := clparse_any W A c l HL.out (by have := HZ.out; omega)
    have hp := fun (w : World) (hb : Below W.heap.size W w) => refparse_any w A c l (Rd.more (Rd.below HL.out hb) hb.size) (by have := HZ.out; omega) (by have := HZ.out; omega) hcm
    have hE := clParse_eq l (by have := HZ.out; omega)
    have hP := @parse9_ok l
    rw [HZ.out] at hq hp hE
    obtain ⟨⟨⟨i, r, x, s⟩, f⟩, hw⟩ : ∃ q, parse9 l = q := ⟨_, rfl⟩
    rw [hw] at hE hP
    have hp' : ∀ (w : World), Below W.heap.size W w → Calls Try.prog 64 #[.slice A N c] w fun e w' => e = .returned (.tuple #[.agg #[.int .i64 i, .int .i64 r, .int .i64 x, .int .i64 s], .int .i64 f]) ∧ Below w.heap.size w w' := by
      intro w hb
      have := hp w hb
      rw [hw] at this
      exact this
    have HP := Lib.hid hp'
    have HO := Lib.hid hP
    have HW := Lib.hid hw
    clear hp hp' hP hw
    by_cases hf : f = 0
    · subst hf
      obtain ⟨hc9, h9, hok⟩ := HO.out rfl
      have h9' := HZ.out
      by_cases hlong : 9 < N
      · have hE1 : clParse l = ((0, 0, 0, 0), 3) := by rw [hE]; exact if_pos ⟨rfl, hlong⟩
        rw [hE1] at hq
        have HQ := Lib.hid hq
        clear hq hc9 h9 hok h9' hE hE1
        go_wp2_with fail
        refine HQ.out.mono ?_
        rintro e w1 ⟨rfl, hb1⟩
        unfold clV
        have HB1 := Lib.hid hb1
        have hs1 := hb1.size
        clear hb1
        go_wp2_with fail
        refine (HP.out _ (HB1.out.alloc hs1 _)).mono ?_
        rintro e w2 ⟨rfl, hb2⟩
        have HB2 := Lib.hid hb2
        clear hb2
        go_wp2_with fail
        have m2 := (((Mst.start W).below HB1.out).new 92 #[.int .i64 0, .int .i64 0, .int .i64 0, .int .i64 0] |>.below HB2.out).new 91 #[.int .i64 0, .int .i64 0, .int .i64 0, .int .i64 0]
        have z0 := (m2.blk []).cell 0
        have z1 := (m2.blk []).cell 1
        have z2 := (m2.blk []).cell 2
        have z3 := (m2.blk []).cell 3
        have y0 := (m2.blk [_]).cell 0
        have y1 := (m2.blk [_]).cell 1
        have y2 := (m2.blk [_]).cell 2
        have y3 := (m2.blk [_]).cell 3
        have zl := (m2.blk []).lt
        have yl := (m2.blk [_]).lt
        have hne := ne4 0 0 0 0
        simp at y0 y1 y2 y3 z0 z1 z2 z3
        have M2 := Lib.hid m2
        clear m2
        go_region_held3 (fun w' => w'.cell? ⟨w1.heap.size, 0, none⟩ = some (.int .i64 0) ∧ w'.cell? ⟨w1.heap.size, 1, none⟩ = some (.int .i64 0) ∧ w'.cell? ⟨w1.heap.size, 2, none⟩ = some (.int .i64 0) ∧ w'.cell? ⟨w1.heap.size, 3, none⟩ = some (.int .i64 0) ∧ w'.cell? ⟨w2.heap.size, 0, none⟩ = some (.int .i64 0) ∧ w'.cell? ⟨w2.heap.size, 1, none⟩ = some (.int .i64 0) ∧ w'.cell? ⟨w2.heap.size, 2, none⟩ = some (.int .i64 0) ∧ w'.cell? ⟨w2.heap.size, 3, none⟩ = some (.int .i64 0))
          (first | go_keep | (refine ⟨?_, ?_, ?_, ?_, ?_, ?_, ?_, ?_⟩ <;> assumption))
          (first
            | ((with_reducible refine (of_any 0 0 0 0 _).mono ?_); rintro e w3 ⟨rfl, hb3⟩; have m3 := M2.out.drew.below hb3; have k0 := (m3.blk []).cell 0; have k1 := (m3.blk []).cell 1; have k2 := (m3.blk []).cell 2; have k3 := (m3.blk []).cell 3; have j0 := (m3.blk [_]).cell 0; have j1 := (m3.blk [_]).cell 1; have j2 := (m3.blk [_]).cell 2; have j3 := (m3.blk [_]).cell 3; simp at j0 j1 j2 j3 k0 k1 k2 k3; have M3 := Lib.hid m3; clear m3 hb3))
        go_wp2_with ((with_reducible refine (known05 _).mono ?_); rintro e w4 ⟨rfl, hb4⟩; have HB4 := Lib.hid ((M3.out.below hb4).bel); clear hb4)
        go_ret
        exact ⟨rfl, HB4.out⟩
      · have hif : ¬ ((0 : Int) = 0 ∧ 9 < N) := fun hh => hlong hh.2
        have hE1 : clParse l = ((i, r, x, s), 0) := by rw [hE]; exact if_neg hif
        rw [hE1] at hq
        have HQ := Lib.hid hq
        obtain rfl : N = 9 := by omega
        have hN9 : l.length = 9 := by omega
        have HZ9 := Lib.hid hN9
        have HC9 := Lib.hid (show clB i r x s = l by have := clB_c9 l hN9; rw [← hc9] at this; exact this)
        have HOK := Lib.hid (show clOk i r x s by rw [← hc9] at hok; exact hok)
        clear hq hif hc9 h9 hok h9' hN9 hE hE1
        go_wp2_with fail
        refine HQ.out.mono ?_
        rintro e w1 ⟨rfl, hb1⟩
        unfold clV
        have HB1 := Lib.hid hb1
        have hs1 := hb1.size
        clear hb1
        go_wp2_with fail
        refine (HP.out _ (HB1.out.alloc hs1 _)).mono ?_
        rintro e w2 ⟨rfl, hb2⟩
        have m2 := (((Mst.start W).below HB1.out).new 92 #[.int .i64 i, .int .i64 r, .int .i64 x, .int .i64 s] |>.below hb2).new 91 #[.int .i64 i, .int .i64 r, .int .i64 x, .int .i64 s]
        clear hb2
        go_wp2_with fail
        have z0 := (m2.blk []).cell 0
        have z1 := (m2.blk []).cell 1
        have z2 := (m2.blk []).cell 2
        have z3 := (m2.blk []).cell 3
        have y0 := (m2.blk [_]).cell 0
        have y1 := (m2.blk [_]).cell 1
        have y2 := (m2.blk [_]).cell 2
        have y3 := (m2.blk [_]).cell 3
        have zl := (m2.blk []).lt
        have yl := (m2.blk [_]).lt
        have hne := ne4 i r x s
        simp at y0 y1 y2 y3 z0 z1 z2 z3
        have M2 := Lib.hid m2
        clear m2
        go_region_held3 (fun w' => w'.cell? ⟨w1.heap.size, 0, none⟩ = some (.int .i64 i) ∧ w'.cell? ⟨w1.heap.size, 1, none⟩ = some (.int .i64 r) ∧ w'.cell? ⟨w1.heap.size, 2, none⟩ = some (.int .i64 x) ∧ w'.cell? ⟨w1.heap.size, 3, none⟩ = some (.int .i64 s) ∧ w'.cell? ⟨w2.heap.size, 0, none⟩ = some (.int .i64 i) ∧ w'.cell? ⟨w2.heap.size, 1, none⟩ = some (.int .i64 r) ∧ w'.cell? ⟨w2.heap.size, 2, none⟩ = some (.int .i64 x) ∧ w'.cell? ⟨w2.heap.size, 3, none⟩ = some (.int .i64 s))
          (first | go_keep | (refine ⟨?_, ?_, ?_, ?_, ?_, ?_, ?_, ?_⟩ <;> assumption))
          (first
            | ((with_reducible refine (of_any i r x s _).mono ?_); rintro e w3 ⟨rfl, hb3⟩; have m3 := M2.out.drew.below hb3; have k0 := (m3.blk []).cell 0; have k1 := (m3.blk []).cell 1; have k2 := (m3.blk []).cell 2; have k3 := (m3.blk []).cell 3; have j0 := (m3.blk [_]).cell 0; have j1 := (m3.blk [_]).cell 1; have j2 := (m3.blk [_]).cell 2; have j3 := (m3.blk [_]).cell 3; simp at j0 j1 j2 j3 k0 k1 k2 k3; have M3 := Lib.hid m3; clear m3 hb3))
        go_wp2_with fail
        refine (clbytes_ok i r x s _ HOK.out).mono ?_
        rintro e w4 ⟨v4, rfl, hf4⟩
        rw [HC9.out] at hf4
        have m4 := M3.out.addr hf4
        obtain ⟨A4, c4, rfl, _⟩ := own_form hf4.own
        have M4 := Lib.hid m4
        clear m4 hf4
        go_wp2_with fail
        refine (known05 _).mono ?_
        rintro e w5 ⟨rfl, hb5⟩
        have m5 := M4.out.below hb5
        have M5 := Lib.hid m5
        have hrd := own_rd (m5.row [])
        have HS := Lib.hid (same_yes A4 A c4 c l w5 (by show Rd w5 w5.heap.size 1 A4 l.length (by8 l); rw [HZ9.out]; exact hrd) (M5.out.oldRd HL.out) (by have := HZ9.out; unfold maxLen; omega))
        rw [HZ9.out] at HS
        clear m5 hb5 hrd
        go_wp2_with fail
        refine HS.out.mono ?_
        rintro e w6 ⟨rfl, hb6⟩
        have HB6 := Lib.hid ((M5.out.below hb6).bel)
        clear hb6
        go_wp2_with fail
        go_ret
        exact ⟨rfl, HB6.out⟩
    · have hif : ¬ (f = 0 ∧ 9 < N) := fun hh => hf hh.1
      have hE1 : clParse l = ((i, r, x, s), f) := by rw [hE]; exact if_neg hif
      rw [hE1] at hq
      have HQ := Lib.hid hq
      have hd : (f == 0) = false := by simpa using hf
      have hd2 : (f != 0) = true := by simpa using hf
      have hd3 : (f != f) = false := by simp
      clear hq hf hif hE hE1
      go_wp2_with fail
      refine HQ.out.mono ?_
      rintro e w1 ⟨rfl, hb1⟩
      unfold clV
      have HB1 := Lib.hid hb1
      have hs1 := hb1.size
      clear hb1
      go_wp2_with fail
      refine (HP.out _ (HB1.out.alloc hs1 _)).mono ?_
      rintro e w2 ⟨rfl, hb2⟩
      have m2 := (((Mst.start W).below HB1.out).new 92 #[.int .i64 i, .int .i64 r, .int .i64 x, .int .i64 s] |>.below hb2).new 91 #[.int .i64 i, .int .i64 r, .int .i64 x, .int .i64 s]
      clear hb2
      go_wp2_with fail
      have z0 := (m2.blk []).cell 0
      have z1 := (m2.blk []).cell 1
      have z2 := (m2.blk []).cell 2
      have z3 := (m2.blk []).cell 3
      have y0 := (m2.blk [_]).cell 0
      have y1 := (m2.blk [_]).cell 1
      have y2 := (m2.blk [_]).cell 2
      have y3 := (m2.blk [_]).cell 3
      have zl := (m2.blk []).lt
      have yl := (m2.blk [_]).lt
      have hne := ne4 i r x s
      simp at y0 y1 y2 y3 z0 z1 z2 z3
      have M2 := Lib.hid m2
      clear m2
      go_region_held3 (fun w' => w'.cell? ⟨w1.heap.size, 0, none⟩ = some (.int .i64 i) ∧ w'.cell? ⟨w1.heap.size, 1, none⟩ = some (.int .i64 r) ∧ w'.cell? ⟨w1.heap.size, 2, none⟩ = some (.int .i64 x) ∧ w'.cell? ⟨w1.heap.size, 3, none⟩ = some (.int .i64 s) ∧ w'.cell? ⟨w2.heap.size, 0, none⟩ = some (.int .i64 i) ∧ w'.cell? ⟨w2.heap.size, 1, none⟩ = some (.int .i64 r) ∧ w'.cell? ⟨w2.heap.size, 2, none⟩ = some (.int .i64 x) ∧ w'.cell? ⟨w2.heap.size, 3, none⟩ = some (.int .i64 s))
        (first | go_keep | (refine ⟨?_, ?_, ?_, ?_, ?_, ?_, ?_, ?_⟩ <;> assumption))
        (first
          | ((with_reducible refine (of_any i r x s _).mono ?_); rintro e w3 ⟨rfl, hb3⟩; have m3 := M2.out.drew.below hb3; have k0 := (m3.blk []).cell 0; have k1 := (m3.blk []).cell 1; have k2 := (m3.blk []).cell 2; have k3 := (m3.blk []).cell 3; have j0 := (m3.blk [_]).cell 0; have j1 := (m3.blk [_]).cell 1; have j2 := (m3.blk [_]).cell 2; have j3 := (m3.blk [_]).cell 3; simp at j0 j1 j2 j3 k0 k1 k2 k3; have M3 := Lib.hid m3; clear m3 hb3))
      go_wp2_with ((with_reducible refine (known05 _).mono ?_); rintro e w4 ⟨rfl, hb4⟩; have HB4 := Lib.hid ((M3.out.below hb4).bel); clear hb4)
      go_ret
      exact ⟨rfl, HB4.out⟩

theorem contract_claimsReads (W : World) (v0 : Value) (a0 : ∃ r : Rw, v0 = r.v ∧ r.ok .u8 W) :
    Calls Try.prog 13 #[v0] W fun e W' => e = .returned (.bool true) ∧ Below W.heap.size W W' := by
  obtain ⟨r, rfl, ok⟩ := a0
  obtain ⟨l, h1, h2⟩ := bytes_of r.zs ok.wf
  have hrd := ok.rd
  rw [h1] at hrd
  exact claimsReads_main W r.A r.zs.length r.c l h2 (by show Rd W W.heap.size 1 r.A l.length (by8 l); rw [h2]; exact hrd) ok.le (by have := ok.cap; unfold maxLen at this; omega)
end Go.Proofs.Ythnaobolmgcclaa
