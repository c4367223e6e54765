/-
  vigillaw05.ClaimsBytes returns true, whatever it is called with. Conditions: none but that the arguments are claims and a slice of bytes that can be read.
-/
import Derived.Test.YthnaobolmgcclaaRf7
import Derived.Test.YthnaobolmgcclaaCl6
import Derived.Test.YthnaobolmgcclaaKn05
import Derived.Test.YthnaobolmgcclaaClaimsReads
namespace Go.Proofs.Ythnaobolmgcclaa
set_option linter.unusedVariables false
open Go.RowKit

theorem to_any (i r x s : Int) (w : World) : Calls Try.prog 56 #[.agg #[.int .i64 i, .int .i64 r, .int .i64 x, .int .i64 s]] w fun e w' => e = .returned (.agg #[.int .i64 i, .int .i64 r, .int .i64 x, .int .i64 s]) ∧ Below w.heap.size w w' := by
  go_enter Try.func56, Try.ntmps56
  go_wp2
  exact bodyPost_ret (v := .agg #[.int .i64 i, .int .i64 r, .int .i64 x, .int .i64 s]) (by simp [results, Try.results56, go_sem]) rfl ⟨rfl, ((Below.refl _ _).alloc (Nat.le_refl _) _).alloc (by simp) _⟩
theorem eq4c (i r x s : Int) (w : World) : (binOp .eql 92 (.agg #[.int .i64 i, .int .i64 r, .int .i64 x, .int .i64 s]) (.agg #[.int .i64 i, .int .i64 r, .int .i64 x, .int .i64 s])).run Try.prog w = .ok (.bool true) w := by
  go_simp
theorem check_is (i r x s : Int) (w : World) : Calls Try.prog 60 #[.agg #[.int .i64 i, .int .i64 r, .int .i64 x, .int .i64 s]] w fun e w' => e = .returned (.int .i64 (if clOk i r x s then 0 else 10)) ∧ Below w.heap.size w w' := by
  refine (clcheck_any i r x s w).mono fun e w' ⟨h, hb⟩ => ⟨?_, hb⟩
  rcases h with ⟨h1, h2⟩ | ⟨h1, h2⟩
  · rw [h2, if_pos h1]
  · rw [h2, if_neg h1]

set_option maxHeartbeats 400000 in
theorem left_is (g : Nat) (A : Option Addr) (n c : Nat) (w : World) (hc : w.cell? ⟨g, 0, none⟩ = some (.slice A n c)) :
    Calls Try.prog 30 #[.pointer (some ⟨g, 0, none⟩)] w fun e w' => e = .returned (.int .i64 n) ∧ w = w' := by
  go_enter Try.func30, Try.ntmps30
  go_wp2
  go_ret
  exact ⟨rfl, rfl⟩

set_option maxRecDepth 100000 in
set_option maxHeartbeats 8000000 in
theorem claimsBytes_main (W : World) (i r x s : Int) (A : Option Addr) (n c : Nat) (l0 : List UInt8) (hl0 : l0.length = n) (hr : RB W W.heap.size A l0) (hnc : n ≤ c) (hcm : c ≤ 9223372036854775807) :
    Calls Try.prog 12 #[.agg #[.int .i64 i, .int .i64 r, .int .i64 x, .int .i64 s], .slice A n c] W fun e W' => e = .returned (.bool true) ∧ Below W.heap.size W W' := by
  obtain ⟨N, hN, hN1, hN2⟩ : ∃ N : Nat, (N = n ∨ N = 20) ∧ N ≤ n ∧ N ≤ 20 := ⟨min n 20, by omega, by omega, by omega⟩
  have hN3 : N ≤ c := by omega
  obtain ⟨l, hl⟩ : ∃ l, l0.take N = l := ⟨_, rfl⟩
  have hl2 : l.length = N := by rw [← hl]; simp; omega
  have HL := Lib.hid (show RB W W.heap.size A l from by rw [← hl]; exact hr.take N)
  have HZ := Lib.hid hl2
  have HN := Lib.hid hN
  clear hr hl hl0 hN hl2
  have M0 := Lib.hid ((Mst.start W).new 91 #[.int .i64 i, .int .i64 r, .int .i64 x, .int .i64 s])
  go_enter Try.func12, Try.ntmps12
  go_upto_region 1 with fail
  go_cut [1] (fun s1 w => s1 = .slice A N c ∧ W.alloc (.cells #[.int .i64 i, .int .i64 r, .int .i64 x, .int .i64 s] 91) = w)
  case first =>
    go_wp2_with fail
    all_goals
      go_meet
      exact ⟨slice_n (by have := HN.out; omega), rfl⟩
  case rest =>
    obtain ⟨rfl, rfl⟩ := hcut
    go_wp2_with fail
    refine (to_any i r x s _).mono ?_
    rintro e w1 ⟨rfl, hb1⟩
    have m1 := (M0.out.below hb1).new 92 #[.int .i64 i, .int .i64 r, .int .i64 x, .int .i64 s]
    have M1 := Lib.hid m1
    clear m1 hb1
    by_cases hok : clOk i r x s
    · have HO := Lib.hid hok
      have HB9 := Lib.hid (clB_length i r x s)
      have HP1 := Lib.hid (show clParse (clB i r x s) = ((i, r, x, s), 0) by
        have h1 := parse9_clB i r x s [] hok
        rw [List.append_nil] at h1
        rw [clParse_eq _ (by rw [clB_length]; omega), h1, if_neg (by rw [clB_length]; omega)])
      have HP2 := Lib.hid (show clParse (clB i r x s ++ [0]) = ((0, 0, 0, 0), 3) by
        rw [clParse_eq _ (by simp [clB_length]), parse9_clB i r x s [0] hok, if_pos ⟨rfl, by simp [clB_length]⟩])
      have hnew : newR (clB i r x s ++ l) = (clB i r x s ++ l, 0) := newR_short (by have := HZ.out; simp [clB_length]; omega)
      have HR1 := Lib.hid (show clRead (newR (clB i r x s ++ l)) = ((i, r, x, s), 0) by rw [hnew, clRead_eq, parse9_clB i r x s l hok])
      have HR2 := Lib.hid (show cSt4 (newR (clB i r x s ++ l)) = (l, 0) by
        rw [hnew, (read_long _ (by simp [clB_length])).1, List.drop_left' (clB_length i r x s)])
      have HEQ := Lib.hid (eq4c i r x s)
      obtain ⟨B, hB⟩ : ∃ B, clB i r x s = B := ⟨_, rfl⟩
      rw [hB] at HB9 HP1 HP2 HR1 HR2
      have HB := Lib.hid hB
      clear hok hnew hB
      go_wp2_with fail
      refine (clbytes_ok i r x s _ HO.out).mono ?_
      rintro e w2 ⟨v2, rfl, f2⟩
      rw [HB.out] at f2
      have m2 := M1.out.addr f2
      obtain ⟨A2, c2, rfl, _⟩ := own_form f2.own
      have c2le := own_cap f2.own
      have a0 := (m2.blk [_]).cell 0
      have a1 := (m2.blk [_]).cell 1
      have a2 := (m2.blk [_]).cell 2
      have a3 := (m2.blk [_]).cell 3
      simp at a0 a1 a2 a3
      have M2 := Lib.hid m2
      clear m2 f2
      go_wp2_with fail
      refine (right_any i r x s _).mono ?_
      rintro e w3 ⟨rfl, hb3⟩
      rw [decide_eq_true HO.out]
      have m3 := M2.out.below hb3
      have hq := clparse_any w3 A2 c2 B (by show Rd w3 w3.heap.size 1 A2 B.length (by8 B); rw [HB9.out]; exact own_rd (m3.row [])) (by rw [HB9.out]; omega)
      rw [HP1.out, HB9.out] at hq
      have HQ := Lib.hid hq
      have M3 := Lib.hid m3
      clear hb3 m3 hq a0 a1 a2 a3
      go_wp2_with fail
      refine HQ.out.mono ?_
      rintro e w4 ⟨rfl, hb4⟩
      have M4 := Lib.hid ((M3.out.below hb4).new 92 #[.int .i64 i, .int .i64 r, .int .i64 x, .int .i64 s])
      unfold clV
      clear hb4
      have hNl := HZ.out
      have hme := M4.out.newrow 5 1 0 0 #[] (Nat.le_refl _) (by decide) rfl
      rw [show (w4.alloc (.cells #[.int .i64 i, .int .i64 r, .int .i64 x, .int .i64 s] 92)).heap.size = w4.heap.size + 1 by simp] at hme
      have HME := Lib.hid hme
      clear hme
      have HLN := Lib.hid (show Rd W W.heap.size 1 A N (by8 l) from by have := HL.out; unfold RB at this; rw [HZ.out] at this; exact this)
      go_wp2_with (at_builtin; first
        | (refine wpList_appM rfl _ _ 26 rfl [] S5.out el_u8 rfl _ _ _ _ (by8 l) rfl (S5.out.oldRd HLN.out) (by8_one _) (by unfold maxLen; omega) (by omega) ?_; intro A6 c6 w6 s6; have S6 := Lib.hid s6; clear s6)
        | (refine wpList_appM rfl _ _ 26 rfl [] HME.out el_u8 rfl _ _ _ _ (by8 B) rfl (own_rd (HME.out.row [_])) (by8_one _) (by decide) (by decide) ?_; intro A5 c5 w5 s5; have S5 := Lib.hid s5; clear s5; clear HME))
      have he : (B ++ l).length = 9 + N := by rw [List.length_append, HB9.out, HZ.out]
      have hn := new_any W w6 _ _ S6.out A6 c6 (B ++ l) (by
        have := own_rd (S6.out.row [])
        show Rd w6 w6.heap.size 1 A6 (B ++ l).length (by8 (B ++ l))
        rw [he, by8_append]
        simpa using this) (by rw [he]; omega)
      rw [he] at hn
      have HNW := Lib.hid hn
      clear hn he
      refine HNW.out.mono ?_
      rintro e w7 ⟨g, A7, c7, rfl, hg, h7⟩
      have hrd := clread_any W w7 _ _ _ _ g _ h7
      rw [HR1.out, HR2.out] at hrd
      have HRD := Lib.hid hrd
      clear hrd h7 hg
      go_wp2_with fail
      refine HRD.out.mono ?_
      rintro e w8 ⟨rfl, h8⟩
      unfold clV
      obtain ⟨A8, c8, m8, src8, _⟩ := h8.newb 92 #[.int .i64 i, .int .i64 r, .int .i64 x, .int .i64 s]
      have hme := m8.newrow 5 1 0 0 #[] (Nat.le_refl _) (by decide) rfl
      rw [show (w8.alloc (.cells #[.int .i64 i, .int .i64 r, .int .i64 x, .int .i64 s] 92)).heap.size = w8.heap.size + 1 by simp] at hme
      have HME := Lib.hid hme
      clear hme m8 src8 h8
      go_wp2_with (at_builtin; first
        | (refine wpList_appM rfl _ _ 26 rfl [] (Mst.alloc S9.out _) el_u8 rfl _ _ 1 1 [.int .u8 0] rfl (Rd.new1 _ #[.int .u8 0] _ rfl) (one1 _ rfl) (by decide) (by decide) ?_; intro A10 c10 w10 s10; have S10 := Lib.hid s10; clear s10)
        | (refine wpList_appM rfl _ _ 26 rfl [] HME.out el_u8 rfl _ _ _ _ (by8 B) rfl (own_rd (HME.out.row [_, _, _])) (by8_one _) (by decide) (by decide) ?_; intro A9 c9 w9 s9; have S9 := Lib.hid s9; clear s9; clear HME))
      have hpz := clparse_any w10 A10 c10 (B ++ [0]) (by
        have := own_rd (S10.out.row [])
        show Rd w10 w10.heap.size 1 A10 (B ++ [0]).length (by8 (B ++ [0]))
        rw [by8_append, List.length_append, HB9.out, show by8 [0] = [Value.int .u8 0] from rfl]
        simpa using this) (by rw [List.length_append, HB9.out]; decide)
      rw [HP2.out, List.length_append, HB9.out] at hpz
      have HPZ := Lib.hid hpz
      clear hpz
      refine HPZ.out.mono ?_
      rintro e w11 ⟨rfl, hb11⟩
      unfold clV
      have m11 := (S10.out.below hb11).new 92 #[.int .i64 0, .int .i64 0, .int .i64 0, .int .i64 0]
      have M11 := Lib.hid m11
      clear m11 hb11
      go_wp2_with fail
      refine (known05 _).mono ?_
      rintro e w12 ⟨rfl, hb12⟩
      have m12 := M11.out.below hb12
      have a0 := (m12.blk [_, _, _, _]).cell 0
      have a1 := (m12.blk [_, _, _, _]).cell 1
      have a2 := (m12.blk [_, _, _, _]).cell 2
      have a3 := (m12.blk [_, _, _, _]).cell 3
      simp at a0 a1 a2 a3
      have M12 := Lib.hid m12
      clear m12 hb12
      go_wp2_with fail
      refine (check_is i r x s _).mono ?_
      rintro e w13 ⟨rfl, hb13⟩
      rw [if_pos HO.out]
      have m13 := M12.out.below hb13
      have b0 := (m13.blk [_, _, _, _, _]).cell 0
      have b1 := (m13.blk [_, _, _, _, _]).cell 1
      have b2 := (m13.blk [_, _, _, _, _]).cell 2
      have b3 := (m13.blk [_, _, _, _, _]).cell 3
      simp at b0 b1 b2 b3
      have M13 := Lib.hid m13
      clear m13 hb13 a0 a1 a2 a3
      go_wp2_with fail
      refine (refbytes_any i r x s _ HO.out).mono ?_
      rintro e w14 ⟨v14, rfl, f14⟩
      rw [HB.out] at f14
      have m14 := M13.out.addr f14
      obtain ⟨A14, c14, rfl, _⟩ := own_form f14.own
      have hsame := same_yes A2 A14 c2 c14 B w14 (by have := own_rd (m14.row [_, _, _, _]); show Rd w14 w14.heap.size 1 A2 B.length (by8 B); rw [HB9.out]; exact this) (by have := own_rd (m14.row []); show Rd w14 w14.heap.size 1 A14 B.length (by8 B); rw [HB9.out]; exact this) (by rw [HB9.out]; decide)
      rw [HB9.out] at hsame
      have HSM := Lib.hid hsame
      have M14 := Lib.hid m14
      clear m14 f14 hsame b0 b1 b2 b3
      go_wp2_with fail
      refine HSM.out.mono ?_
      rintro e w15 ⟨rfl, hb15⟩
      have m15 := M14.out.below hb15
      have a0 := (m15.blk [_, _, _, _]).cell 0
      have a1 := (m15.blk [_, _, _, _]).cell 1
      have a2 := (m15.blk [_, _, _, _]).cell 2
      have a3 := (m15.blk [_, _, _, _]).cell 3
      simp at a0 a1 a2 a3
      have b0 := (m15.blk [_, _, _]).cell 0
      have b1 := (m15.blk [_, _, _]).cell 1
      have b2 := (m15.blk [_, _, _]).cell 2
      have b3 := (m15.blk [_, _, _]).cell 3
      simp at b0 b1 b2 b3
      have d0 := (m15.blk [_, _]).cell 0
      have d1 := (m15.blk [_, _]).cell 1
      have d2 := (m15.blk [_, _]).cell 2
      have d3 := (m15.blk [_, _]).cell 3
      simp at d0 d1 d2 d3
      have g0 := (m15.blk [_]).cell 0
      simp at g0
      have HEQ2 := HEQ.out
      have HB15 := Lib.hid m15.bel
      clear m15 hb15
      go_wp2_with fail
      rw [HZ.out] at g0
      refine (left_is g A8 N c8 w15 g0).mono ?_
      rintro e w' ⟨rfl, rfl⟩
      go_wp2_with fail
      go_ret
      exact ⟨rfl, HB15.out⟩
    · have HN' := Lib.hid hok
      clear hok
      go_wp2_with fail
      refine (clbytes_bad i r x s _ HN'.out).mono ?_
      rintro e w2 ⟨rfl, hb2⟩
      have m2 := M1.out.below hb2
      have a0 := (m2.blk [_]).cell 0
      have a1 := (m2.blk [_]).cell 1
      have a2 := (m2.blk [_]).cell 2
      have a3 := (m2.blk [_]).cell 3
      simp at a0 a1 a2 a3
      have M2 := Lib.hid m2
      clear m2 hb2
      go_wp2_with fail
      refine (right_any i r x s _).mono ?_
      rintro e w3 ⟨rfl, hb3⟩
      rw [decide_eq_false HN'.out]
      have M3 := Lib.hid (M2.out.below hb3)
      clear hb3 a0 a1 a2 a3
      go_wp2_with fail
      refine (known05 _).mono ?_
      rintro e w4 ⟨rfl, hb4⟩
      have m4 := M3.out.below hb4
      have a0 := (m4.blk []).cell 0
      have a1 := (m4.blk []).cell 1
      have a2 := (m4.blk []).cell 2
      have a3 := (m4.blk []).cell 3
      simp at a0 a1 a2 a3
      have M4 := Lib.hid m4
      clear m4 hb4
      go_wp2_with fail
      refine (check_is i r x s _).mono ?_
      rintro e w5 ⟨rfl, hb5⟩
      rw [if_neg HN'.out]
      have HB5 := Lib.hid (M4.out.below hb5).bel
      clear hb5 a0 a1 a2 a3
      go_wp2_with fail
      go_ret
      exact ⟨rfl, HB5.out⟩

theorem contract_claimsBytes (W : World) (v0 v1 : Value) (a0 : ∃ zs : List Int, v0 = .agg (zs.map (Value.int .i64)).toArray ∧ zs.length = 4 ∧ ∀ z ∈ zs, in64 z) (a1 : ∃ r : Rw, v1 = r.v ∧ r.ok .u8 W) :
    Calls Try.prog 12 #[v0, v1] W fun e W' => e = .returned (.bool true) ∧ Below W.heap.size W W' := by
  obtain ⟨zs, rfl, hz, _⟩ := a0
  obtain ⟨i, r, x, s, rfl⟩ : ∃ i r x s, zs = [i, r, x, s] := by
    match zs, hz with
    | [i, r, x, s], _ => exact ⟨i, r, x, s, rfl⟩
  obtain ⟨b, rfl, ok⟩ := a1
  obtain ⟨l, h1, h2⟩ := bytes_of b.zs ok.wf
  have hrd := ok.rd
  rw [h1] at hrd
  exact claimsBytes_main W i r x s b.A b.zs.length b.c l h2 (by show Rd W W.heap.size 1 b.A l.length (by8 l); rw [h2]; exact hrd) ok.le (by have := ok.cap; unfold maxLen at this; omega)
end Go.Proofs.Ythnaobolmgcclaa
