/-
  vigillaw06.TokenReads returns true, whatever it is called with. Conditions: none but that the slices can be read.
-/
import Derived.Test.YtghcdffpplimoaaTk7
import Derived.Test.YtghcdffpplimoaaTk0
import Derived.Test.YtghcdffpplimoaaRf6
import Derived.Test.YtghcdffpplimoaaCl6
import Derived.Deep.DeepCutAuto
namespace Go.Proofs.Ytghcdffpplimoaa
set_option linter.unusedVariables false
set_option linter.unusedSimpArgs false
open Go.RowKit

theorem eqY36 (w : World) : (binOp .eql 78 (.agg Y36) (.agg Y36)).run Try.prog w = .ok (.bool true) w := by kernel_rfl
theorem eq5r (i r x s : Int) (w : World) : (binOp .eql 23 (.agg #[.int .i64 i, .int .i64 r, .int .i64 x, .int .i64 s]) (.agg #[.int .i64 i, .int .i64 r, .int .i64 x, .int .i64 s])).run Try.prog w = .ok (.bool true) w := by go_simp
theorem parse9_9 {l : List UInt8} (h : l.length = 9) : clParse l = parse9 l ∧ ((parse9 l).2 = 0 ∨ parse9 l = ((0, 0, 0, 0), 3)) := by
  refine ⟨?_, ?_⟩
  · rw [clParse_eq _ (by omega), if_neg (by omega)]
  · unfold parse9
    rw [if_neg (by omega)]
    by_cases hc : clOk (c9 l).1 (c9 l).2.1 (c9 l).2.2.1 (c9 l).2.2.2
    · rw [if_pos hc]; exact .inl rfl
    · rw [if_neg hc]; exact .inr rfl
theorem b8_rb {w : World} {g : Nat} {t : TypeId} {l : List UInt8} (h : Bk w g t (b8a l)) : RB w w.heap.size (some ⟨g, 0, none⟩) l :=
  ⟨by simp [by8], fun _ => ⟨g, 0, rfl, h.lt, fun j u hu => by rw [h.cell, Nat.zero_add]; simpa [b8a] using hu⟩⟩
/-- A secret in new memory. -/
def SecR (W : World) (S : List UInt8) (s11 : Value) (w : World) : Prop := ∃ g, s11 = .pointer (some ⟨g, 0, none⟩) ∧ Mst W w [(g, 27, b8a S)] []

set_option maxRecDepth 100000 in
set_option maxHeartbeats 3200000 in
theorem tokenReads_main (W : World) (A1 A2 : Option Addr) (c1 c2 : Nat) (l1 l2 : List UInt8) (h1 : RB W W.heap.size A1 l1) (d1 : l1.length ≤ c1 ∧ c1 ≤ 9223372036854775807) (h2 : RB W W.heap.size A2 l2) (d2 : l2.length ≤ c2 ∧ c2 ≤ 9223372036854775807) :
    Calls Try.prog 8 #[.slice A1 l1.length c1, .slice A2 l2.length c2] W fun e W' => e = .returned (.bool true) ∧ Below W.heap.size W W' := by
  obtain ⟨k, k1, r1, k3, -, HC1⟩ := cut_ex6 70 h1 d1 (by decide)
  obtain ⟨b, n1, r2, n3, -, HC2⟩ := cut_ex6 50 h2 d2 (by decide)
  have HR1 := Lib.hid (fun w' (hb : Below W.heap.size W w') => RB.keep r1 hb)
  have HR2 := Lib.hid (fun w' (hb : Below W.heap.size W w') => RB.keep r2 hb)
  obtain ⟨N1, e1⟩ : ∃ n, l1.length = n := ⟨_, rfl⟩
  obtain ⟨N2, e2⟩ : ∃ n, l2.length = n := ⟨_, rfl⟩
  obtain ⟨M1, f1⟩ : ∃ n, k.length = n := ⟨_, rfl⟩
  obtain ⟨M2, f2⟩ : ∃ n, b.length = n := ⟨_, rfl⟩
  simp only [e1, e2, f1, f2] at HC1 HC2 ⊢
  have HC1 := Lib.hid HC1
  have HC2 := Lib.hid HC2
  have F1 := Lib.hid f1
  have F2 := Lib.hid f2
  have hM1 : M1 ≤ 70 := by omega
  have hM2 : M2 ≤ 50 := by omega
  have hc2 : M2 ≤ c2 := by omega
  have hc3 : c2 ≤ 9223372036854775807 := d2.2
  clear h1 h2 d1 d2 k1 r1 k3 n1 r2 n3 e1 e2 f1 f2
  have M0 := Lib.hid (Mst.start W)
  by_cases hlt : M2 < 41
  · have HP := Lib.hid (fun w' => tparse_short w' A2 M2 c2 hlt)
    have i1 : (M2 : Int) < 41 := by omega
    go_enter Try.func8, Try.ntmps8
    go_wp2_with fail
    refine (HC1.out _).mono ?_
    rintro e w1 ⟨rfl, rfl⟩
    go_wp2_with fail
    refine (HC2.out _).mono ?_
    rintro e w1 ⟨rfl, rfl⟩
    go_wp2_with fail
    refine (HP.out _).mono ?_
    rintro e w1 ⟨rfl, hb⟩
    have Mq := Lib.hid (Mst.setRow (bl := []) [] ((M0.out.below hb).new 78 Y36) Y36)
    clear hb
    go_wp2_with (first | refine wpList_store_row rfl _ _ _ rfl w1.heap.size Y36 rfl rfl 78 _ (Bk.mk_ _ _ _) info_y36 rfl y36_one ?_)
    refine (known06 _).mono ?_
    rintro e w2 ⟨rfl, hb⟩
    have Mq := Lib.hid (Mq.out.below hb)
    clear hb
    go_wp2_with (first | refine wpList_loadG rfl _ _ rfl w1.heap.size 0 rfl Y36 _ (tkc_full (Mq.out.blk [])) Try.underlying78 rfl info_y36 ?_ | refine wpList_buildG rfl _ rfl _ (build_tok0 _) ?_ | refine wpList_binG rfl .eql _ _ _ _ rfl Y36 Y36 rfl rfl (by kernel_rfl) _ (eqY36 _) ?_)
    go_ret
    exact ⟨rfl, Mq.out.bel⟩
  · have HLN9 := Lib.hid (show (b.take 9).length = 9 by rw [List.length_take, F2.out]; omega)
    obtain ⟨hp1, hp2⟩ := parse9_9 HLN9.out
    obtain ⟨P, hP⟩ : ∃ P, parse9 (b.take 9) = P := ⟨_, rfl⟩
    have HRP := Lib.hid (show ∀ w', Below W.heap.size W w' → Calls Try.prog 47 #[.slice A2 9 c2] w' fun e w2 => e = .returned (.tuple #[clV P.1, .int .i64 P.2]) ∧ Below w'.heap.size w' w2 from fun w' hb => by
      have := refparse_any w' A2 c2 (b.take 9) ((HR2.out w' hb).cut 9) (by rw [HLN9.out]; omega) (by rw [HLN9.out]; omega) hc3
      rw [HLN9.out, hP] at this
      exact this)
    rw [hP] at hp2 hp1
    obtain ⟨⟨i, r, x, s⟩, e0⟩ := P
    simp only [clV] at HRP
    have i1 : ¬ (M2 : Int) < 41 := by omega
    have i2 : (9 : Int) ≤ M2 := by omega
    have i3 : (9 : Int) ≤ c2 := by omega
    have i4 : ¬ c2 = 9 := by omega
    by_cases hgt : 41 < M2 ∨ ¬ e0 = 0
    · have HPB := Lib.hid (show ∀ w', Below W.heap.size W w' → Calls Try.prog 46 #[.slice A2 M2 c2] w' fun e w2 => e = .returned (.tuple #[.agg Y36, .int .i64 3]) ∧ Below w'.heap.size w' w2 from fun w' hb => by
        by_cases h41 : 41 < M2
        · exact tparse_long w' A2 M2 c2 h41
        · have hl : b.length = 41 := by have := F2.out; omega
          have he : ¬ e0 = 0 := by rcases hgt with h | h; exact absurd h h41; exact h
          have h3 : e0 = 3 := by
            rcases hp2 with h | h
            · exact absurd h he
            · exact (Prod.mk.inj h).2
          have := tparse_41 w' A2 c2 b (HR2.out w' hb) hl ⟨by omega, hc3⟩ i r x s e0 hp1
          rw [if_neg he, h3] at this
          rw [show M2 = 41 by omega]
          exact this)
      have hgd : (decide ((41 : Int) < M2) || (e0 != 0)) = true := by
        rcases hgt with h | h
        · simp; omega
        · simp [h]
      clear hgt hp1 hp2 hP
      go_enter Try.func8, Try.ntmps8
      go_wp2_with fail
      refine (HC1.out _).mono ?_
      rintro e w1 ⟨rfl, rfl⟩
      go_wp2_with fail
      refine (HC2.out _).mono ?_
      rintro e w1 ⟨rfl, rfl⟩
      go_wp2_with fail
      refine (HPB.out _ M0.out.bel).mono ?_
      rintro e w1 ⟨rfl, hb⟩
      have Mq := Lib.hid (Mst.setRow (bl := []) [] ((M0.out.below hb).new 78 Y36) Y36)
      clear hb
      go_upto_region 3 with (first | refine wpList_store_row rfl _ _ _ rfl w1.heap.size Y36 rfl rfl 78 _ (Bk.mk_ _ _ _) info_y36 rfl y36_one ?_)
      generalize hw2 : World.setRow _ _ _ = w2
      have Mq := Lib.hid (Mq.out.toV hw2 rfl)
      clear hw2
      go_wp2_with fail
      refine (HRP.out _ Mq.out.bel).mono ?_
      rintro e w3 ⟨rfl, hb⟩
      have Mq := Lib.hid ((Mq.out.below hb).new 23 #[.int .i64 i, .int .i64 r, .int .i64 x, .int .i64 s])
      clear hb HPB HRP HC1 HC2
      by_cases h41 : (41 : Int) < M2
      · go_wp2_with fail
        refine (known06 _).mono ?_
        rintro e w2 ⟨rfl, hb⟩
        have Mq := Lib.hid (Mq.out.below hb)
        clear hb
        go_wp2_with (first | refine wpList_loadG rfl _ _ rfl w1.heap.size 0 rfl Y36 _ (tkc_full (Mq.out.blk [_])) Try.underlying78 rfl info_y36 ?_ | refine wpList_buildG rfl _ rfl _ (build_tok0 _) ?_ | refine wpList_binG rfl .eql _ _ _ _ rfl Y36 Y36 rfl rfl (by kernel_rfl) _ (eqY36 _) ?_)
        go_ret
        exact ⟨rfl, Mq.out.bel⟩
      · have he : (e0 != 0) = true := by simpa [h41] using hgd
        clear hgd
        go_wp2_with fail
        refine (known06 _).mono ?_
        rintro e w2 ⟨rfl, hb⟩
        have Mq := Lib.hid (Mq.out.below hb)
        clear hb
        go_wp2_with (first | refine wpList_loadG rfl _ _ rfl w1.heap.size 0 rfl Y36 _ (tkc_full (Mq.out.blk [_])) Try.underlying78 rfl info_y36 ?_ | refine wpList_buildG rfl _ rfl _ (build_tok0 _) ?_ | refine wpList_binG rfl .eql _ _ _ _ rfl Y36 Y36 rfl rfl (by kernel_rfl) _ (eqY36 _) ?_)
        go_ret
        exact ⟨rfl, Mq.out.bel⟩
    · obtain rfl : M2 = 41 := by omega
      obtain rfl : e0 = 0 := by
        by_cases h : e0 = 0
        · exact h
        · exact absurd (.inr h) hgt
      have hok := parse9_ok (l := b.take 9) (by rw [hP])
      rw [hP] at hok
      obtain ⟨hk1, -, hcl⟩ := hok
      have hB : clB i r x s = b.take 9 := by
        have := clB_c9 (b.take 9) HLN9.out
        rw [← hk1] at this
        exact this
      rw [← hk1] at hcl
      have hKT := rsum_ex
      obtain ⟨KT, hKT⟩ := hKT
      obtain ⟨Kx, hK⟩ : ∃ Kx, b.drop 9 = Kx := ⟨_, rfl⟩
      have hKl : Kx.length = 32 := by rw [← hK, List.length_drop, F2.out]
      have hBK : clB i r x s ++ Kx = b := by rw [hB, ← hK, List.take_append_drop]
      have HPT := Lib.hid (show ∀ w', Below W.heap.size W w' → Calls Try.prog 46 #[.slice A2 41 c2] w' fun e w2 => e = .returned (.tuple #[.agg (tkc i r x s Kx), .int .i64 0]) ∧ Below w'.heap.size w' w2 from fun w' hb => by
        have := tparse_41 w' A2 c2 b (HR2.out w' hb) F2.out ⟨by omega, hc3⟩ i r x s 0 hp1
        rw [if_pos rfl, hK] at this
        exact this)
      have HTB := Lib.hid (show ∀ w', Calls Try.prog 48 #[.agg (tkc i r x s Kx)] w' fun e w2 => ∃ A c, e = .returned (.tuple #[.slice A 41 c, .int .i64 0]) ∧ RB w2 w2.heap.size A b ∧ Below w'.heap.size w' w2 from fun w' => by
        refine (tbytes_ok w' i r x s Kx hKl hcl).mono ?_
        rintro e w2 ⟨A, c, rfl, _, _, hn, hb⟩
        rw [hBK] at hn
        exact ⟨A, c, rfl, hn.rb, hb⟩)
      have HMK := Lib.hid hKT.make
      have HRS := Lib.hid (show ∀ w', Below W.heap.size W w' → Calls Try.prog 32 #[.agg KT, .slice A1 M1 c1, .agg #[.int .i64 i, .int .i64 r, .int .i64 x, .int .i64 s]] w' fun e w2 => e = .returned (.agg (b8a (secB k i r x s))) ∧ Below w'.heap.size w' w2 from fun w' hb => by
        have := refsec_any KT hKT w' A1 c1 k (HR1.out w' hb) (by have := F1.out; omega) i r x s hcl
        rw [F1.out] at this
        exact this)
      have HNW := Lib.hid (show ∀ w', Below W.heap.size W w' → Calls Try.prog 27 #[.slice A1 M1 c1] w' fun e w2 => ∃ gk, e = .returned (.pointer (some ⟨gk, 0, none⟩)) ∧ KeyW w2 gk k ∧ Below w'.heap.size w' w2 from fun w' hb => by
        have := new_any w' A1 c1 k (HR1.out w' hb) (by have := F1.out; omega)
        rw [F1.out] at this
        exact this)
      have HHO := Lib.hid (fun w' gk (hk : KeyW w' gk k) => holds_ok w' gk k hk (by have := F1.out; omega) i r x s Kx hKl hcl)
      obtain ⟨S, hS⟩ : ∃ S, secB k i r x s = S := ⟨_, rfl⟩
      have hSl : S.length = 32 := by rw [← hS]; rfl
      obtain ⟨D, hD⟩ : ∃ D, decide (S = Kx) = D := ⟨_, rfl⟩
      simp only [hS, hD] at HRS HHO
      obtain ⟨b0, o0, rfl, hbw, -⟩ := (HR2.out W (Below.refl _ _)).at_ (by rw [F2.out]; decide)
      have HRD := Lib.hid (show ∀ w', Below W.heap.size W w' → RB w' w'.heap.size (some ⟨b0, o0 + 9, none⟩) Kx from fun w' hb => by
        refine ⟨by simp [by8], fun _ => ⟨b0, o0 + 9, rfl, Nat.lt_of_lt_of_le hbw hb.size, fun j u hu => ?_⟩⟩
        obtain ⟨_, _, e2, _, hc2⟩ := (HR2.out w' hb).2 (by rw [F2.out]; decide)
        injection e2 with e2
        injection e2 with e2 e3 _
        subst e2 e3
        rw [Nat.add_assoc]
        refine hc2 (9 + j) u ?_
        rw [← hK] at hu
        simp only [by8, List.map_drop, List.getElem?_drop] at hu ⊢
        exact hu)
      have HS1 := Lib.hid (show ∀ w' A A' c c', RB w' w'.heap.size A Kx → RB w' w'.heap.size A' Kx → Calls Try.prog 21 #[.slice A 32 c, .slice A' 32 c'] w' fun e w2 => e = .returned (.bool true) ∧ Below w'.heap.size w' w2 from fun w' A A' c c' h1 h2 => by
        have := same_yes A A' c c' Kx w' h1 h2 (by unfold maxLen; omega)
        rw [hKl] at this
        exact this)
      have HS2 := Lib.hid (show ∀ w' A A' c c', RB w' w'.heap.size A b → RB w' w'.heap.size A' b → Calls Try.prog 21 #[.slice A 41 c, .slice A' 41 c'] w' fun e w2 => e = .returned (.bool true) ∧ Below w'.heap.size w' w2 from fun w' A A' c c' h1 h2 => by
        have := same_yes A A' c c' b w' h1 h2 (by rw [F2.out]; unfold maxLen; omega)
        rw [F2.out] at this
        exact this)
      have HS3 := Lib.hid (show ∀ w' A A' c c', RB w' w'.heap.size A S → RB w' w'.heap.size A' Kx → Calls Try.prog 21 #[.slice A 32 c, .slice A' 32 c'] w' fun e w2 => e = .returned (.bool D) ∧ Below w'.heap.size w' w2 from fun w' A A' c c' h1 h2 => by
        have := same_any A A' c c' S Kx w' h1 h2 (by unfold maxLen; omega)
        rw [hSl, hKl, hD] at this
        exact this)
      have KL := Lib.hid hKl
      have SL := Lib.hid hSl
      have HEQ := Lib.hid (eq5r i r x s)
      clear hgt hp1 hp2 hP hk1 hcl hB hKT hK hKl hBK hS hSl hD hlt hM2
      go_enter Try.func8, Try.ntmps8
      go_wp2_with fail
      refine (HC1.out _).mono ?_
      rintro e w1 ⟨rfl, rfl⟩
      go_wp2_with fail
      refine (HC2.out _).mono ?_
      rintro e w1 ⟨rfl, rfl⟩
      go_wp2_with fail
      refine (HPT.out _ M0.out.bel).mono ?_
      rintro e w1 ⟨rfl, hb⟩
      have Mq := Lib.hid (Mst.setRow (bl := []) [] ((M0.out.below hb).new 78 Y36) (tkc i r x s Kx))
      clear hb
      go_upto_region 3 with (first | refine wpList_store_row rfl _ _ _ rfl w1.heap.size (tkc i r x s Kx) rfl rfl 78 _ (Bk.mk_ _ _ _) (info_tok KL.out) (y36_k KL.out) (tkc_one _ _ _ _ _) ?_)
      generalize hw2 : World.setRow _ _ _ = w2
      have Mq := Lib.hid (Mq.out.toV hw2 rfl)
      clear hw2
      go_wp2_with fail
      refine (HRP.out _ Mq.out.bel).mono ?_
      rintro e w3 ⟨rfl, hb⟩
      have Mq := Lib.hid ((Mq.out.below hb).new 23 #[.int .i64 i, .int .i64 r, .int .i64 x, .int .i64 s])
      clear hb HPT HRP HC1 HC2
      go_wp2_with (first | refine wpList_loadG rfl _ _ rfl w1.heap.size 0 rfl (tkc i r x s Kx) _ (tkc_full (Mq.out.blk [_])) Try.underlying78 rfl (info_tok KL.out) ?_)
      refine (HTB.out _).mono ?_
      rintro e w8 ⟨A3, c3, rfl, hrx, hb⟩
      have Mq := Lib.hid (Mq.out.below hb)
      have HB8 := Lib.hid Mq.out.bel
      have G5 := Lib.hid (fun w' (hb : Below w8.heap.size w8 w') => Bk.below (Mq.out.blk [_]) hb (Mq.out.blk [_]).lt)
      have G7 := Lib.hid (fun w' (hb : Below w8.heap.size w8 w') => Bk.below (Mq.out.blk []) hb (Mq.out.blk []).lt)
      have HRX := Lib.hid (fun w' (hb : Below w8.heap.size w8 w') => RB.keep hrx hb)
      have HW8 := Lib.hid (fun w' (hb : Below w8.heap.size w8 w') => Bsz HB8.out hb)
      have Mq := Lib.hid (Mst.start w8)
      clear hb hrx HTB
      have HC7 := Lib.hid (show ∀ w', Below w8.heap.size w8 w' → w'.cell? ⟨w3.heap.size, 0, none⟩ = some (.int .i64 i) ∧ w'.cell? ⟨w3.heap.size, 1, none⟩ = some (.int .i64 r) ∧ w'.cell? ⟨w3.heap.size, 2, none⟩ = some (.int .i64 x) ∧ w'.cell? ⟨w3.heap.size, 3, none⟩ = some (.int .i64 s) from fun w' hb => ⟨(G7.out w' hb).cell 0, (G7.out w' hb).cell 1, (G7.out w' hb).cell 2, (G7.out w' hb).cell 3⟩)
      go_upto_region 9 with fail
      go_cut [11] (fun s11 wr => SecR w8 S s11 wr)
      case first =>
        refine wp_region_held_drew (S := fun w' => w'.cell? ⟨w3.heap.size, 0, none⟩ = some (.int .i64 i) ∧ w'.cell? ⟨w3.heap.size, 1, none⟩ = some (.int .i64 r) ∧ w'.cell? ⟨w3.heap.size, 2, none⟩ = some (.int .i64 x) ∧ w'.cell? ⟨w3.heap.size, 3, none⟩ = some (.int .i64 s)) (by kernel_rfl) ?_ (fun hHeld => ?_)
        · exact HC7.out _ Mq.out.drew.bel
        generalize hw9 : World.drew _ = w9 at hHeld ⊢
        have Mq := Lib.hid (show Mst w8 w9 [] [] from Mq.out.drew.toV hw9 rfl)
        clear hw9
        refine wpAnyH_take (i := 1) (v := ?_) rfl (by kernel_rfl) (by kernel_rfl) (by kernel_rfl) (fun _ _ _ h => h) (Or.inl ⟨by rfl, ?_⟩) (by assumption) ?_
        rotate_left
        · intro w hSw; (try dsimp only at hSw); go_split_ands; go_simp; with_reducible rfl
        change wpAnyH _ _ _ _ _ _ _ (Act.put _ (some 63) _) _
        simp only [Act.put, List.setIfInBounds_toArray, List.set_cons_zero, List.set_cons_succ, Array.toArray_toList]
        refine wpAnyH_take (i := 2) (v := ?_) rfl (by kernel_rfl) (by kernel_rfl) (by kernel_rfl) (fun _ _ _ h => h) (Or.inl ⟨by rfl, ?_⟩) (by assumption) ?_
        rotate_left
        · intro w hSw; (try dsimp only at hSw); go_split_ands; go_simp; with_reducible rfl
        change wpAnyH _ _ _ _ _ _ _ (Act.put _ (some 64) _) _
        simp only [Act.put, List.setIfInBounds_toArray, List.set_cons_zero, List.set_cons_succ, Array.toArray_toList]
        refine wpAnyH_ready (rs := [0, 4]) (by kernel_rfl) (by simp) ?_
        refine (AllReadyH.cons rfl (fun K hK => ?_) (AllReadyH.cons rfl (fun K hK => ?_) AllReadyH.nil))
        · skip
          go_simp
          (with_reducible refine (HMK.out _).mono ?_); rintro e wq ⟨rfl, hb⟩; have Mq := Lib.hid (Mq.out.below hb); clear hb
          go_wp2_with fail
          refine hK.out _ _ (by exact HC7.out _ Mq.out.bel) (fun hHeld => ?_)
          clear hK K
          refine wpAnyH_ready (rs := [3, 4]) (by kernel_rfl) (by simp) ?_
          refine (AllReadyH.cons rfl (fun K hK => ?_) (AllReadyH.cons rfl (fun K hK => ?_) AllReadyH.nil))
          · skip
            go_simp
            (with_reducible refine (HRS.out _ (HW8.out _ Mq.out.bel)).mono ?_); rintro e wq ⟨rfl, hb⟩; have Mq := Lib.hid (Mq.out.below hb); clear hb
            go_wp2_with fail
            refine hK.out _ _ (by exact HC7.out _ Mq.out.bel) (fun hHeld => ?_)
            clear hK K
            refine wpAnyH_ready (rs := [4]) (by kernel_rfl) (by simp) ?_
            refine (AllReadyH.cons rfl (fun K hK => ?_) AllReadyH.nil)
            go_simp; generalize hwq : World.alloc _ _ = wq2; obtain ⟨g12, hg12, mq⟩ := Mq.out.newX hwq; rw [hg12]; have Mq := Lib.hid mq; clear hwq hg12 mq
            refine hK.out _ _ (by exact HC7.out _ Mq.out.bel) (fun hHeld => ?_)
            clear hK K
            refine wpAnyH_ready (rs := [5]) (by kernel_rfl) (by simp) ?_
            refine (AllReadyH.cons rfl (fun K hK => ?_) AllReadyH.nil)
            refine step_store_row rfl _ _ _ rfl g12 (b8a S) rfl rfl 27 _ (Mq.out.blk []) (info_k SL.out) (y32_k SL.out) (b8a_one S) ?_; have Mq := Lib.hid (Mst.setRow (bl := []) [] Mq.out (b8a S))
            refine hK.out _ _ (by exact HC7.out _ Mq.out.bel) (fun hHeld => ?_)
            clear hK K
            refine wpAnyH_done (by kernel_rfl) ?_ _
            go_wp2_with fail
            go_meet
            exact ⟨_, rfl, Mq.out⟩
          · skip
            go_simp; generalize hwq : World.alloc _ _ = wq2; obtain ⟨g12, hg12, mq⟩ := Mq.out.newX hwq; rw [hg12]; have Mq := Lib.hid mq; clear hwq hg12 mq
            refine hK.out _ _ (by exact HC7.out _ Mq.out.bel) (fun hHeld => ?_)
            clear hK K
            refine wpAnyH_ready (rs := [3]) (by kernel_rfl) (by simp) ?_
            refine (AllReadyH.cons rfl (fun K hK => ?_) AllReadyH.nil)
            go_simp
            (with_reducible refine (HRS.out _ (HW8.out _ Mq.out.bel)).mono ?_); rintro e wq ⟨rfl, hb⟩; have Mq := Lib.hid (Mq.out.below hb); clear hb
            go_wp2_with fail
            refine hK.out _ _ (by exact HC7.out _ Mq.out.bel) (fun hHeld => ?_)
            clear hK K
            refine wpAnyH_ready (rs := [5]) (by kernel_rfl) (by simp) ?_
            refine (AllReadyH.cons rfl (fun K hK => ?_) AllReadyH.nil)
            refine step_store_row rfl _ _ _ rfl g12 (b8a S) rfl rfl 27 _ (Mq.out.blk []) (info_k SL.out) (y32_k SL.out) (b8a_one S) ?_; have Mq := Lib.hid (Mst.setRow (bl := []) [] Mq.out (b8a S))
            refine hK.out _ _ (by exact HC7.out _ Mq.out.bel) (fun hHeld => ?_)
            clear hK K
            refine wpAnyH_done (by kernel_rfl) ?_ _
            go_wp2_with fail
            go_meet
            exact ⟨_, rfl, Mq.out⟩
        · skip
          go_simp; generalize hwq : World.alloc _ _ = wq2; obtain ⟨g12, hg12, mq⟩ := Mq.out.newX hwq; rw [hg12]; have Mq := Lib.hid mq; clear hwq hg12 mq
          refine hK.out _ _ (by exact HC7.out _ Mq.out.bel) (fun hHeld => ?_)
          clear hK K
          refine wpAnyH_ready (rs := [0]) (by kernel_rfl) (by simp) ?_
          refine (AllReadyH.cons rfl (fun K hK => ?_) AllReadyH.nil)
          go_simp
          (with_reducible refine (HMK.out _).mono ?_); rintro e wq ⟨rfl, hb⟩; have Mq := Lib.hid (Mq.out.below hb); clear hb
          go_wp2_with fail
          refine hK.out _ _ (by exact HC7.out _ Mq.out.bel) (fun hHeld => ?_)
          clear hK K
          refine wpAnyH_ready (rs := [3]) (by kernel_rfl) (by simp) ?_
          refine (AllReadyH.cons rfl (fun K hK => ?_) AllReadyH.nil)
          go_simp
          (with_reducible refine (HRS.out _ (HW8.out _ Mq.out.bel)).mono ?_); rintro e wq ⟨rfl, hb⟩; have Mq := Lib.hid (Mq.out.below hb); clear hb
          go_wp2_with fail
          refine hK.out _ _ (by exact HC7.out _ Mq.out.bel) (fun hHeld => ?_)
          clear hK K
          refine wpAnyH_ready (rs := [5]) (by kernel_rfl) (by simp) ?_
          refine (AllReadyH.cons rfl (fun K hK => ?_) AllReadyH.nil)
          refine step_store_row rfl _ _ _ rfl g12 (b8a S) rfl rfl 27 _ (Mq.out.blk []) (info_k SL.out) (y32_k SL.out) (b8a_one S) ?_; have Mq := Lib.hid (Mst.setRow (bl := []) [] Mq.out (b8a S))
          refine hK.out _ _ (by exact HC7.out _ Mq.out.bel) (fun hHeld => ?_)
          clear hK K
          refine wpAnyH_done (by kernel_rfl) ?_ _
          go_wp2_with fail
          go_meet
          exact ⟨_, rfl, Mq.out⟩
      case rest =>
        clear Mq HMK HRS
        obtain ⟨g11, rfl, mq⟩ := hcut
        have Mq := Lib.hid mq
        clear mq
        have hu : ∃ d, Try.prog.underlying 78 = some d ∧ d.isRow = true := ⟨_, Try.underlying78, rfl⟩
        obtain ⟨d, hu, hd⟩ := hu
        have hki := info_tokL (i := i) (r := r) (x := x) (s := s) KL.out
        have HSX := Lib.hid (show ∀ w', Below w8.heap.size w8 w' → (w'.cell? ⟨w1.heap.size, 0, none⟩ = some (.int .i64 i) ∧ w'.cell? ⟨w1.heap.size, 1, none⟩ = some (.int .i64 r) ∧ w'.cell? ⟨w1.heap.size, 2, none⟩ = some (.int .i64 x) ∧ w'.cell? ⟨w1.heap.size, 3, none⟩ = some (.int .i64 s)) ∧
          (w'.cell? ⟨w3.heap.size, 0, none⟩ = some (.int .i64 i) ∧ w'.cell? ⟨w3.heap.size, 1, none⟩ = some (.int .i64 r) ∧ w'.cell? ⟨w3.heap.size, 2, none⟩ = some (.int .i64 x) ∧ w'.cell? ⟨w3.heap.size, 3, none⟩ = some (.int .i64 s)) ∧ w'.rangeAt w1.heap.size 0 (tkc i r x s Kx).toList from fun w' hb => ⟨tkc_cells (G5.out w' hb), HC7.out w' hb, tkc_full (G5.out w' hb)⟩)
        go_upto_region 10 with fail
        refine wp_region_held_drew (S := fun w' => (w'.cell? ⟨w1.heap.size, 0, none⟩ = some (.int .i64 i) ∧ w'.cell? ⟨w1.heap.size, 1, none⟩ = some (.int .i64 r) ∧ w'.cell? ⟨w1.heap.size, 2, none⟩ = some (.int .i64 x) ∧ w'.cell? ⟨w1.heap.size, 3, none⟩ = some (.int .i64 s)) ∧ (w'.cell? ⟨w3.heap.size, 0, none⟩ = some (.int .i64 i) ∧ w'.cell? ⟨w3.heap.size, 1, none⟩ = some (.int .i64 r) ∧ w'.cell? ⟨w3.heap.size, 2, none⟩ = some (.int .i64 x) ∧ w'.cell? ⟨w3.heap.size, 3, none⟩ = some (.int .i64 s)) ∧ w'.rangeAt w1.heap.size 0 (tkc i r x s Kx).toList) (by kernel_rfl) ?_ (fun hHeld => ?_)
        · exact HSX.out _ Mq.out.drew.bel
        generalize hw9 : World.drew _ = w9 at hHeld ⊢
        have Mq := Lib.hid (show Mst w8 w9 [(g11, 27, b8a S)] [] from Mq.out.drew.toV hw9 rfl)
        clear hw9
        refine wpAnyH_ready (rs := [0]) (by kernel_rfl) (by simp) ?_
        refine (AllReadyH.cons rfl (fun K hK => ?_) AllReadyH.nil)
        go_simp
        (with_reducible refine (known06 _).mono ?_); rintro e wq ⟨rfl, hb⟩; have Mq := Lib.hid (Mq.out.below hb); clear hb
        go_wp2_with fail
        refine hK.out _ _ (by exact HSX.out _ Mq.out.bel) (fun hHeld => ?_)
        clear hK K
        refine wpAnyH_take (i := 1) (v := ?_) rfl (by kernel_rfl) (by kernel_rfl) (by kernel_rfl) (fun _ _ _ h => h) (Or.inl ⟨by rfl, ?_⟩) (by assumption) ?_
        rotate_left
        · intro w hSw; (try dsimp only at hSw); go_split_ands; go_simp; with_reducible rfl
        change wpAnyH _ _ _ _ _ _ _ (Act.put _ (some 67) _) _
        simp only [Act.put, List.setIfInBounds_toArray, List.set_cons_zero, List.set_cons_succ, Array.toArray_toList]
        refine wpAnyH_take (i := 2) (v := ?_) rfl (by kernel_rfl) (by kernel_rfl) (by kernel_rfl) (fun _ _ _ h => h) (Or.inl ⟨by rfl, ?_⟩) (by assumption) ?_
        rotate_left
        · intro w hSw; (try dsimp only at hSw); go_split_ands; go_simp; with_reducible rfl
        change wpAnyH _ _ _ _ _ _ _ (Act.put _ (some 68) _) _
        simp only [Act.put, List.setIfInBounds_toArray, List.set_cons_zero, List.set_cons_succ, Array.toArray_toList]
        refine wpAnyH_take (i := 3) (v := ?_) rfl (by kernel_rfl) (by kernel_rfl) (by kernel_rfl) (fun _ _ _ h => h) (Or.inl ⟨by rfl, ?_⟩) (by assumption) ?_
        rotate_left
        · intro w hSw; (try dsimp only at hSw); go_split_ands; go_simp; with_reducible rfl
        change wpAnyH _ _ _ _ _ _ _ (Act.put _ (some 69) _) _
        simp only [Act.put, List.setIfInBounds_toArray, List.set_cons_zero, List.set_cons_succ, Array.toArray_toList]
        refine wpAnyH_take (i := 4) (v := ?_) rfl (by kernel_rfl) (by kernel_rfl) (by kernel_rfl) (fun _ _ _ h => h) (Or.inl ⟨by rfl, ?_⟩) (by assumption) ?_
        rotate_left
        · intro w hSw; (try dsimp only at hSw); go_split_ands; go_simp; with_reducible rfl
        change wpAnyH _ _ _ _ _ _ _ (Act.put _ (some 70) _) _
        simp only [Act.put, List.setIfInBounds_toArray, List.set_cons_zero, List.set_cons_succ, Array.toArray_toList]
        refine wpAnyH_take (i := 5) (v := ?_) rfl (by kernel_rfl) (by kernel_rfl) (by kernel_rfl) (fun _ _ _ h => h) (Or.inl ⟨by rfl, ?_⟩) (by assumption) ?_
        rotate_left
        · intro w hSw; (try dsimp only at hSw); go_split_ands; go_simp; with_reducible rfl
        change wpAnyH _ _ _ _ _ _ _ (Act.put _ (some 71) _) _
        simp only [Act.put, List.setIfInBounds_toArray, List.set_cons_zero, List.set_cons_succ, Array.toArray_toList]
        refine wpAnyH_take (i := 6) (v := ?_) rfl (by kernel_rfl) (by kernel_rfl) (by kernel_rfl) (fun _ _ _ h => h) (Or.inl ⟨by rfl, ?_⟩) (by assumption) ?_
        rotate_left
        · intro w hSw; (try dsimp only at hSw); go_split_ands; go_simp; with_reducible rfl
        change wpAnyH _ _ _ _ _ _ _ (Act.put _ (some 72) _) _
        simp only [Act.put, List.setIfInBounds_toArray, List.set_cons_zero, List.set_cons_succ, Array.toArray_toList]
        refine wpAnyH_take (i := 7) (v := ?_) rfl (by kernel_rfl) (by kernel_rfl) (by kernel_rfl) (fun _ _ _ h => h) (Or.inl ⟨by rfl, ?_⟩) (by assumption) ?_
        rotate_left
        · intro w hSw; (try dsimp only at hSw); go_split_ands; go_simp; with_reducible rfl
        change wpAnyH _ _ _ _ _ _ _ (Act.put _ (some 73) _) _
        simp only [Act.put, List.setIfInBounds_toArray, List.set_cons_zero, List.set_cons_succ, Array.toArray_toList]
        refine wpAnyH_take (i := 9) (v := ?_) rfl (by kernel_rfl) (by kernel_rfl) (by kernel_rfl) (fun _ _ _ h => h) (Or.inl ⟨by rfl, ?_⟩) (by assumption) ?_
        rotate_left
        · intro w hSw; (try dsimp only at hSw); go_split_ands; go_simp; with_reducible rfl
        change wpAnyH _ _ _ _ _ _ _ (Act.put _ (some 75) _) _
        simp only [Act.put, List.setIfInBounds_toArray, List.set_cons_zero, List.set_cons_succ, Array.toArray_toList]
        refine wpAnyH_ready (rs := [8]) (by kernel_rfl) (by simp) ?_
        refine (AllReadyH.cons rfl (fun K hK => ?_) AllReadyH.nil)
        go_simp
        (with_reducible refine (of05_any _ _ _ _ _).mono ?_); rintro e wq ⟨rfl, hb⟩; have Mq := Lib.hid (Mq.out.below hb); have heq := HEQ.out; clear hb
        go_wp2_with fail
        refine hK.out _ _ (by exact HSX.out _ Mq.out.bel) (fun hHeld => ?_)
        clear hK K
        refine wpAnyH_take (i := 10) (v := ?_) rfl (by kernel_rfl) (by kernel_rfl) (by kernel_rfl) (fun _ _ _ h => h) (Or.inl ⟨by rfl, ?_⟩) (by assumption) ?_
        rotate_left
        · intro w hSw; (try dsimp only at hSw); go_split_ands; go_simp; with_reducible rfl
        change wpAnyH _ _ _ _ _ _ _ (Act.put _ (some 76) _) _
        simp only [Act.put, List.setIfInBounds_toArray, List.set_cons_zero, List.set_cons_succ, Array.toArray_toList]
        refine wpAnyH_take (i := 11) (v := ?_) rfl (by kernel_rfl) (by kernel_rfl) (by kernel_rfl) (fun _ _ _ h => h) (Or.inl ⟨by rfl, ?_⟩) (by assumption) ?_
        rotate_left
        · intro w hSw; (try dsimp only at hSw); go_split_ands; go_simp; with_reducible rfl
        change wpAnyH _ _ _ _ _ _ _ (Act.put _ (some 77) _) _
        simp only [Act.put, List.setIfInBounds_toArray, List.set_cons_zero, List.set_cons_succ, Array.toArray_toList]
        refine wpAnyH_take (i := 12) (v := ?_) rfl (by kernel_rfl) (by kernel_rfl) (by kernel_rfl) (fun _ _ _ h => h) (Or.inl ⟨by rfl, ?_⟩) (by assumption) ?_
        rotate_left
        · intro w hSw; (try dsimp only at hSw); go_split_ands; go_simp; with_reducible rfl
        change wpAnyH _ _ _ _ _ _ _ (Act.put _ (some 78) _) _
        simp only [Act.put, List.setIfInBounds_toArray, List.set_cons_zero, List.set_cons_succ, Array.toArray_toList]
        refine wpAnyH_take (i := 13) (v := ?_) rfl (by kernel_rfl) (by kernel_rfl) (by kernel_rfl) (fun _ _ _ h => h) (Or.inl ⟨by rfl, ?_⟩) (by assumption) ?_
        rotate_left
        · intro w hSw; (try dsimp only at hSw); go_split_ands; go_simp; with_reducible rfl
        change wpAnyH _ _ _ _ _ _ _ (Act.put _ (some 79) _) _
        simp only [Act.put, List.setIfInBounds_toArray, List.set_cons_zero, List.set_cons_succ, Array.toArray_toList]
        refine wpAnyH_take (i := 14) (v := ?_) rfl (by kernel_rfl) (by kernel_rfl) (by kernel_rfl) (fun _ _ _ h => h) (Or.inl ⟨by rfl, ?_⟩) (by assumption) ?_
        rotate_left
        · intro w hSw; (try dsimp only at hSw); go_split_ands; go_simp; with_reducible rfl
        change wpAnyH _ _ _ _ _ _ _ (Act.put _ (some 80) _) _
        simp only [Act.put, List.setIfInBounds_toArray, List.set_cons_zero, List.set_cons_succ, Array.toArray_toList]
        refine wpAnyH_take (i := 15) (v := ?_) rfl (by kernel_rfl) (by kernel_rfl) (by kernel_rfl) (fun _ _ _ h => h) (Or.inl ⟨by rfl, ?_⟩) (by assumption) ?_
        rotate_left
        · intro w hSw; (try dsimp only at hSw); go_split_ands; go_simp; with_reducible rfl
        change wpAnyH _ _ _ _ _ _ _ (Act.put _ (some 81) _) _
        simp only [Act.put, List.setIfInBounds_toArray, List.set_cons_zero, List.set_cons_succ, Array.toArray_toList]
        refine wpAnyH_take (i := 16) (v := ?_) rfl (by kernel_rfl) (by kernel_rfl) (by kernel_rfl) (fun _ _ _ h => h) (Or.inl ⟨by rfl, ?_⟩) (by assumption) ?_
        rotate_left
        · intro w hSw; (try dsimp only at hSw); go_split_ands; go_simp; with_reducible rfl
        change wpAnyH _ _ _ _ _ _ _ (Act.put _ (some 82) _) _
        simp only [Act.put, List.setIfInBounds_toArray, List.set_cons_zero, List.set_cons_succ, Array.toArray_toList]
        refine wpAnyH_ready (rs := [17]) (by kernel_rfl) (by simp) ?_
        refine (AllReadyH.cons rfl (fun K hK => ?_) AllReadyH.nil)
        go_simp
        (with_reducible refine (HS1.out _ _ _ _ _ (tkc_rb (G5.out _ Mq.out.bel)) (HRD.out _ (HW8.out _ Mq.out.bel))).mono ?_); rintro e wq ⟨rfl, hb⟩; have Mq := Lib.hid (Mq.out.below hb); clear hb heq
        go_wp2_with fail
        refine hK.out _ _ (by exact HSX.out _ Mq.out.bel) (fun hHeld => ?_)
        clear hK K
        refine wpAnyH_take (i := 18) (v := ?_) rfl (by kernel_rfl) (by kernel_rfl) (by kernel_rfl) (fun _ _ _ h => h) (Or.inl ⟨by rfl, ?_⟩) (by assumption) ?_
        rotate_left
        · intro w hSw; (try dsimp only at hSw); go_split_ands; go_simp; with_reducible rfl
        change wpAnyH _ _ _ _ _ _ _ (Act.put _ (some 84) _) _
        simp only [Act.put, List.setIfInBounds_toArray, List.set_cons_zero, List.set_cons_succ, Array.toArray_toList]
        refine wpAnyH_take (i := 19) (v := ?_) rfl (by kernel_rfl) (by kernel_rfl) (by kernel_rfl) (fun _ _ _ h => h) (Or.inl ⟨by rfl, ?_⟩) (by assumption) ?_
        rotate_left
        · intro w hSw; (try dsimp only at hSw); go_split_ands; go_simp; with_reducible rfl
        change wpAnyH _ _ _ _ _ _ _ (Act.put _ (some 85) _) _
        simp only [Act.put, List.setIfInBounds_toArray, List.set_cons_zero, List.set_cons_succ, Array.toArray_toList]
        refine wpAnyH_take (i := 20) (v := ?_) rfl (by kernel_rfl) (by kernel_rfl) (by kernel_rfl) (fun _ _ _ h => h) (Or.inl ⟨by rfl, ?_⟩) (by assumption) ?_
        rotate_left
        · intro w hSw; (try dsimp only at hSw); go_split_ands; go_simp; with_reducible rfl
        change wpAnyH _ _ _ _ _ _ _ (Act.put _ (some 86) _) _
        simp only [Act.put, List.setIfInBounds_toArray, List.set_cons_zero, List.set_cons_succ, Array.toArray_toList]
        refine wpAnyH_take (i := 21) (v := ?_) rfl (by kernel_rfl) (by kernel_rfl) (by kernel_rfl) (fun _ _ _ h => h) (Or.inl ⟨by rfl, ?_⟩) (by assumption) ?_
        rotate_left
        · intro w hSw; (try dsimp only at hSw); go_split_ands; go_simp; with_reducible rfl
        change wpAnyH _ _ _ _ _ _ _ (Act.put _ (some 87) _) _
        simp only [Act.put, List.setIfInBounds_toArray, List.set_cons_zero, List.set_cons_succ, Array.toArray_toList]
        refine wpAnyH_take (i := 22) (v := ?_) rfl (by kernel_rfl) (by kernel_rfl) (by kernel_rfl) (fun _ _ _ h => h) (Or.inl ⟨by rfl, ?_⟩) (by assumption) ?_
        rotate_left
        · intro w hSw; (try dsimp only at hSw); go_split_ands; go_simp; with_reducible rfl
        change wpAnyH _ _ _ _ _ _ _ (Act.put _ (some 88) _) _
        simp only [Act.put, List.setIfInBounds_toArray, List.set_cons_zero, List.set_cons_succ, Array.toArray_toList]
        refine wpAnyH_take (i := 23) (v := ?_) rfl (by kernel_rfl) (by kernel_rfl) (by kernel_rfl) (fun _ _ _ h => h) (Or.inl ⟨by rfl, ?_⟩) (by assumption) ?_
        rotate_left
        · intro w hSw; (try dsimp only at hSw); go_split_ands; go_simp; with_reducible rfl
        change wpAnyH _ _ _ _ _ _ _ (Act.put _ (some 89) _) _
        simp only [Act.put, List.setIfInBounds_toArray, List.set_cons_zero, List.set_cons_succ, Array.toArray_toList]
        refine wpAnyH_take (i := 24) (v := ?_) rfl (by kernel_rfl) (by kernel_rfl) (by kernel_rfl) (fun _ _ _ h => h) (Or.inl ⟨by rfl, ?_⟩) (by assumption) ?_
        rotate_left
        · intro w hSw; (try dsimp only at hSw); go_split_ands; go_simp; with_reducible rfl
        change wpAnyH _ _ _ _ _ _ _ (Act.put _ (some 90) _) _
        simp only [Act.put, List.setIfInBounds_toArray, List.set_cons_zero, List.set_cons_succ, Array.toArray_toList]
        refine wpAnyH_take (i := 25) (v := ?_) rfl (by kernel_rfl) (by kernel_rfl) (by kernel_rfl) (fun _ _ _ h => h) (Or.inl ⟨by rfl, ?_⟩) (by assumption) ?_
        rotate_left
        · intro w hSw; (try dsimp only at hSw); go_split_ands; go_simp; with_reducible rfl
        change wpAnyH _ _ _ _ _ _ _ (Act.put _ (some 91) _) _
        simp only [Act.put, List.setIfInBounds_toArray, List.set_cons_zero, List.set_cons_succ, Array.toArray_toList]
        refine wpAnyH_ready (rs := [26]) (by kernel_rfl) (by simp) ?_
        refine (AllReadyH.cons rfl (fun K hK => ?_) AllReadyH.nil)
        go_simp
        (with_reducible refine (HS2.out _ _ _ _ _ (HRX.out _ Mq.out.bel) (HR2.out _ (HW8.out _ Mq.out.bel))).mono ?_); rintro e wq ⟨rfl, hb⟩; have Mq := Lib.hid (Mq.out.below hb); clear hb
        go_wp2_with fail
        refine hK.out _ _ (by exact HSX.out _ Mq.out.bel) (fun hHeld => ?_)
        clear hK K
        refine wpAnyH_take (i := 27) (v := ?_) rfl (by kernel_rfl) (by kernel_rfl) (by kernel_rfl) (fun _ _ _ h => h) (Or.inl ⟨by rfl, ?_⟩) (by assumption) ?_
        rotate_left
        · intro w hSw; (try dsimp only at hSw); go_split_ands; go_simp; with_reducible rfl
        change wpAnyH _ _ _ _ _ _ _ (Act.put _ (some 93) _) _
        simp only [Act.put, List.setIfInBounds_toArray, List.set_cons_zero, List.set_cons_succ, Array.toArray_toList]
        refine wpAnyH_take (i := 28) (v := ?_) rfl (by kernel_rfl) (by kernel_rfl) (by kernel_rfl) (fun _ _ _ h => h) (Or.inl ⟨by rfl, ?_⟩) (by assumption) ?_
        rotate_left
        · intro w hSw; (try dsimp only at hSw); go_split_ands; go_simp; with_reducible rfl
        change wpAnyH _ _ _ _ _ _ _ (Act.put _ (some 94) _) _
        simp only [Act.put, List.setIfInBounds_toArray, List.set_cons_zero, List.set_cons_succ, Array.toArray_toList]
        refine wpAnyH_take (i := 29) (v := ?_) rfl (by kernel_rfl) (by kernel_rfl) (by kernel_rfl) (fun _ _ _ h => h) (Or.inl ⟨by rfl, ?_⟩) (by assumption) ?_
        rotate_left
        · intro w hSw; (try dsimp only at hSw); go_split_ands; go_simp; with_reducible rfl
        change wpAnyH _ _ _ _ _ _ _ (Act.put _ (some 95) _) _
        simp only [Act.put, List.setIfInBounds_toArray, List.set_cons_zero, List.set_cons_succ, Array.toArray_toList]
        refine wpAnyH_take (i := 31) rfl (by kernel_rfl) (by kernel_rfl) (by kernel_rfl) (fun _ _ _ h => h) (yieldsIf_load_mid (by rfl) _ _ rfl _ _ rfl _ _ (fun w hw => hw.2.2) hu hd hki) (by assumption) ?_
        change wpAnyH _ _ _ _ _ _ _ (Act.put _ (some 97) _) _
        simp only [Act.put, List.setIfInBounds_toArray, List.set_cons_zero, List.set_cons_succ, Array.toArray_toList]
        refine wpAnyH_take (i := 33) (v := ?_) rfl (by kernel_rfl) (by kernel_rfl) (by kernel_rfl) (fun _ _ _ h => h) (Or.inl ⟨by rfl, ?_⟩) (by assumption) ?_
        rotate_left
        · intro w hSw; (try dsimp only at hSw); go_split_ands; go_simp; with_reducible rfl
        change wpAnyH _ _ _ _ _ _ _ (Act.put _ (some 99) _) _
        simp only [Act.put, List.setIfInBounds_toArray, List.set_cons_zero, List.set_cons_succ, Array.toArray_toList]
        refine wpAnyH_take (i := 34) (v := ?_) rfl (by kernel_rfl) (by kernel_rfl) (by kernel_rfl) (fun _ _ _ h => h) (Or.inl ⟨by rfl, ?_⟩) (by assumption) ?_
        rotate_left
        · intro w hSw; (try dsimp only at hSw); go_split_ands; go_simp; with_reducible rfl
        change wpAnyH _ _ _ _ _ _ _ (Act.put _ (some 100) _) _
        simp only [Act.put, List.setIfInBounds_toArray, List.set_cons_zero, List.set_cons_succ, Array.toArray_toList]
        refine wpAnyH_take (i := 35) (v := ?_) rfl (by kernel_rfl) (by kernel_rfl) (by kernel_rfl) (fun _ _ _ h => h) (Or.inl ⟨by rfl, ?_⟩) (by assumption) ?_
        rotate_left
        · intro w hSw; (try dsimp only at hSw); go_split_ands; go_simp; with_reducible rfl
        change wpAnyH _ _ _ _ _ _ _ (Act.put _ (some 101) _) _
        simp only [Act.put, List.setIfInBounds_toArray, List.set_cons_zero, List.set_cons_succ, Array.toArray_toList]
        refine wpAnyH_ready (rs := [30]) (by kernel_rfl) (by simp) ?_
        refine (AllReadyH.cons rfl (fun K hK => ?_) AllReadyH.nil)
        go_simp
        (with_reducible refine (HNW.out _ (HW8.out _ Mq.out.bel)).mono ?_); rintro e wq ⟨gk, rfl, hk, hb⟩; have Mq := Lib.hid (Mq.out.below hb); have HK := Lib.hid hk; clear hb hk
        go_wp2_with fail
        refine hK.out _ _ (by exact HSX.out _ Mq.out.bel) (fun hHeld => ?_)
        clear hK K
        refine wpAnyH_ready (rs := [32]) (by kernel_rfl) (by simp) ?_
        refine (AllReadyH.cons rfl (fun K hK => ?_) AllReadyH.nil)
        go_simp
        (with_reducible refine (HHO.out _ _ HK.out).mono ?_); rintro e wq ⟨rfl, hb⟩; have Mq := Lib.hid (Mq.out.below hb); clear hb
        go_wp2_with fail
        refine hK.out _ _ (by exact HSX.out _ Mq.out.bel) (fun hHeld => ?_)
        clear hK K
        refine wpAnyH_ready (rs := [36]) (by kernel_rfl) (by simp) ?_
        refine (AllReadyH.cons rfl (fun K hK => ?_) AllReadyH.nil)
        go_simp
        (with_reducible refine (HS3.out _ _ _ _ _ (b8_rb (Mq.out.blk [])) (HRD.out _ (HW8.out _ Mq.out.bel))).mono ?_); rintro e wq ⟨rfl, hb⟩; have Mq := Lib.hid (Mq.out.below hb); clear hb
        go_wp2_with fail
        refine hK.out _ _ (by exact HSX.out _ Mq.out.bel) (fun hHeld => ?_)
        clear hK K
        refine wpAnyH_take (i := 37) (v := ?_) rfl (by kernel_rfl) (by kernel_rfl) (by kernel_rfl) (fun _ _ _ h => h) (Or.inl ⟨by rfl, ?_⟩) (by assumption) ?_
        rotate_left
        · intro w hSw; (try dsimp only at hSw); go_split_ands; go_simp; with_reducible rfl
        change wpAnyH _ _ _ _ _ _ _ (Act.put _ (some 103) _) _
        simp only [Act.put, List.setIfInBounds_toArray, List.set_cons_zero, List.set_cons_succ, Array.toArray_toList]
        refine wpAnyH_take (i := 38) (v := ?_) rfl (by kernel_rfl) (by kernel_rfl) (by kernel_rfl) (fun _ _ _ h => h) (Or.inl ⟨by rfl, ?_⟩) (by assumption) ?_
        rotate_left
        · intro w hSw; (try dsimp only at hSw); go_split_ands; go_simp; with_reducible rfl
        change wpAnyH _ _ _ _ _ _ _ (Act.put _ (some 104) _) _
        simp only [Act.put, List.setIfInBounds_toArray, List.set_cons_zero, List.set_cons_succ, Array.toArray_toList]
        refine wpAnyH_take (i := 39) (v := ?_) rfl (by kernel_rfl) (by kernel_rfl) (by kernel_rfl) (fun _ _ _ h => h) (Or.inl ⟨by rfl, ?_⟩) (by assumption) ?_
        rotate_left
        · intro w hSw; (try dsimp only at hSw); go_split_ands; go_simp; with_reducible rfl
        change wpAnyH _ _ _ _ _ _ _ (Act.put _ (some 4) _) _
        simp only [Act.put, List.setIfInBounds_toArray, List.set_cons_zero, List.set_cons_succ, Array.toArray_toList]
        refine wpAnyH_done (by kernel_rfl) ?_ _
        clear hHeld HSX HRX HRD HS1 HS2 HS3 HNW HHO
        go_wp2
        go_ret
        exact ⟨rfl, HW8.out _ Mq.out.bel⟩
theorem contract_tokenReads (W : World) (v0 v1 : Value) (a0 : ∃ r : Rw, v0 = r.v ∧ r.ok .u8 W) (a1 : ∃ r : Rw, v1 = r.v ∧ r.ok .u8 W) :
    Calls Try.prog 8 #[v0, v1] W fun e W' => e = .returned (.bool true) ∧ Below W.heap.size W W' := by
  obtain ⟨r, rfl, hr⟩ := a0
  obtain ⟨s, rfl, hs⟩ := a1
  obtain ⟨l, e, g1, g2⟩ := rw_pt hr
  obtain ⟨k, e', g1', g2'⟩ := rw_pt hs
  rw [e, e']
  exact tokenReads_main W r.A s.A r.c s.c l k g1 g2 g1' g2'
end Go.Proofs.Ytghcdffpplimoaa
