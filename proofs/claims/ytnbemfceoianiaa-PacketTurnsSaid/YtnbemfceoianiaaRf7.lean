/- The document's layers 4 and 5: a number's bytes, claims' bytes. -/
import Derived.Test.YtnbemfceoianiaaRf5
import Derived.Test.YtnbemfceoianiaaCl2
import Derived.Test.YtnbemfceoianiaaBaseA
namespace Go.Proofs.Ytnbemfceoianiaa
set_option linter.unusedVariables false
open Go.RowKit

theorem numB_succ (k : Nat) (n : Int) : numB (k + 1) n = nbyte n k :: numB k n := by
  unfold numB
  rw [List.range_succ_eq_map, List.map_cons, List.map_map]
  congr 1
  apply List.map_congr_left
  intro j _
  simp only [Function.comp_apply]
  congr 1
  omega
theorem low_byte (n : Int) (h : 0 ≤ n) (k : Nat) : IntKind.u8.wrap (n / 256 ^ k % 256) = ((nbyte n k).toNat : Int) := by
  obtain ⟨m, rfl⟩ := Int.eq_ofNat_of_zero_le h
  unfold nbyte
  rw [UInt8.toNat_ofNat', IntKind.wrap_u8]
  have : (m : Int) / 256 ^ k = ((m / 256 ^ k : Nat) : Int) := by simp
  rw [this]
  simp only [Int.toNat_natCast]
  omega
theorem div_cast (m k : Nat) : (m : Int) / 256 ^ k = ((m / 256 ^ k : Nat) : Int) := by simp
theorem div_next (n : Int) (h : 0 ≤ n) (k : Nat) : n / 256 ^ k / 256 = n / 256 ^ (k + 1) := by
  obtain ⟨m, rfl⟩ := Int.eq_ofNat_of_zero_le h
  have := Nat.div_div_eq_div_mul m (256 ^ k) 256
  rw [← Nat.pow_succ] at this
  rw [div_cast, div_cast, ← this]
  generalize m / 256 ^ k = a
  omega
theorem div_le (n : Int) (h : 0 ≤ n) (k : Nat) : n / 256 ^ k ≤ n := by
  obtain ⟨m, rfl⟩ := Int.eq_ofNat_of_zero_le h
  have := Nat.div_le_self m (256 ^ k)
  rw [div_cast]
  omega
theorem slice_nn {A : Option Addr} {n m c : Nat} (h : n = m) : Value.slice A n c = .slice A m c := by rw [h]

def RoRel (w : World) (cs : Array Value) (n : Int) (k : Nat) (s3 s4 : Value) (wr : World) : Prop :=
  s4 = .int .i64 (n / 256 ^ k) ∧ ∃ A c, s3 = .slice A k c ∧ Mst w wr [(w.heap.size, 128, cs)] [⟨5, 1, .slice A k c, k, by8 (numB k n)⟩]

set_option maxRecDepth 100000 in
set_option maxHeartbeats 3200000 in
theorem refout_num (s n : Int) (h0 : 0 ≤ s) (h3 : s ≤ 3) (hn0 : 0 ≤ n) (hn : n ≤ 9223372036854775807) (A : Option Addr) (m c : Nat) (w : World) :
    Calls Try.prog 72 #[.agg #[.int .i64 s, .int .i64 n, .slice A m c]] w (RetFresh w 5 1 (widB s) (by8 (numB (widB s) n))) := by
  have hs4 : (s == 4) = false := by rw [beq_eq_false_iff_ne]; omega
  have HW := Lib.hid (refwidth_is s h0 h3)
  have hw8 := widB_le s
  obtain ⟨W8, hW8⟩ : ∃ k, widB s = k := ⟨_, rfl⟩
  rw [hW8] at HW hw8 ⊢
  have H0 := Lib.hid (show RoRel w #[.int .i64 s, .int .i64 n, .slice A m c] n 0 (.slice none 0 0) (.int .i64 n) (w.alloc (.cells #[.int .i64 s, .int .i64 n, .slice A m c] 128)) from ⟨by simp, none, 0, rfl, ((Mst.start w).new _ _).nilrow _ _⟩)
  have HN := Lib.hid hn0
  clear hW8
  go_enter Try.func72, Try.ntmps72
  go_wp2_with fail
  go_loopg [3, 4, 5] W8 (fun gg s3 s4 s5 wr => ∃ k : Nat, k + gg = W8 ∧ s5 = .int .i64 k ∧ RoRel w #[.int .i64 s, .int .i64 n, .slice A m c] n k s3 s4 wr)
  case atStart => exact ⟨0, by omega, rfl, H0.out⟩
  case round =>
    obtain ⟨k, hk, rfl, rfl, A3, c3, rfl, mm⟩ := hrel
    have c0 := (mm.blk []).cell 0
    have c1 := (mm.blk []).cell 1
    simp at c0 c1
    have M := Lib.hid mm
    clear mm
    by_cases hlt : k < W8
    · obtain ⟨q, hq⟩ : ∃ q : Int, n / 256 ^ k = q := ⟨_, rfl⟩
      have hq0 : 0 ≤ q := by rw [← hq]; exact Int.ediv_nonneg HN.out (Int.pow_nonneg (by omega))
      have hb := low_byte n HN.out k
      have hd := div_next n HN.out k
      have hq1 := div_le n HN.out k
      rw [hq] at hb hd hq1 ⊢
      obtain ⟨bt, hbt⟩ : ∃ b, (nbyte n k).toNat = b := ⟨_, rfl⟩
      rw [hbt] at hb
      have HBT := Lib.hid hbt
      have HD := Lib.hid hd
      have HX := Lib.hid (numB_succ k n)
      clear hq hd hbt
      go_wp2_with fail
      refine (HW.out _).mono ?_
      rintro e w' ⟨rfl, rfl⟩
      go_wp2_with (at_builtin; refine wpList_appM rfl _ _ 26 rfl [] (M.out.newrow 5 1 1 1 #[.int .u8 bt] (Nat.le_refl _) (by decide) rfl) el_u8 rfl _ _ _ _ (by8 (numB k n)) rfl (own_rd ((M.out.newrow 5 1 1 1 #[.int .u8 bt] (Nat.le_refl _) (by decide) rfl).row [_])) (by8_one _) (by unfold maxLen; omega) (by omega) ?_; intro A2 c2 w2 s2; have S2 := Lib.hid s2; clear s2)
      go_roundg (W8 - (k + 1))
      case measure => exact meas hk hlt
      case rel =>
        refine ⟨k + 1, meas2 hlt, by go_num, by rw [← HD.out], A2, c2, slice_nn (by omega), ?_⟩
        have a := S2.out.sub (List.Sublist.refl _) (List.Sublist.cons_cons _ (List.nil_sublist _))
        have e : List.take (1 * 1) [Value.int .u8 (bt : Int)] ++ by8 (numB k n) = by8 (numB (k + 1) n) := by rw [HX.out, ← HBT.out]; rfl
        have h1 : 1 + k = k + 1 := by omega
        rw [h1] at a
        show Mst w w2 _ [⟨_, 1, _, k + 1, by8 (numB (k + 1) n)⟩]
        rw [← e]
        exact a
    · obtain rfl : k = W8 := by omega
      go_wp2_with fail
      refine (HW.out _).mono ?_
      rintro e w' ⟨rfl, rfl⟩
      go_wp2_with fail
      go_ret
      exact ⟨_, rfl, M.out.bel, M.out.row []⟩

theorem byte_row (r : Int) (h0 : 0 ≤ r) (h1 : r ≤ 255) : by8 (numB 1 r) = [.int .u8 r] := by
  have := low_byte r h0 0
  rw [IntKind.wrap_u8] at this
  simp only [Int.pow_zero, Int.ediv_one] at this
  have e : numB 1 r = [nbyte r 0] := rfl
  rw [e]
  show [Value.int .u8 ((nbyte r 0).toNat : Int)] = _
  rw [← this, show r % 256 % 256 = r by omega]

set_option maxRecDepth 100000 in
set_option maxHeartbeats 3200000 in
theorem refbytes_any (i r x s : Int) (w : World) (h : clOk i r x s) :
    Calls Try.prog 54 #[.agg #[.int .i64 i, .int .i64 r, .int .i64 x, .int .i64 s]] w (RetFresh w 5 1 9 (by8 (clB i r x s))) := by
  obtain ⟨⟨i0, i1⟩, ⟨r0, r1⟩, ⟨x0, x1⟩, ⟨s0, s1⟩⟩ := h
  have o1 := fun w => refout_num 1 i (by omega) (by omega) (by omega) (by omega) none 0 0 w
  have o2 := fun w => refout_num 2 x (by omega) (by omega) (by omega) (by omega) none 0 0 w
  have o3 := fun w => refout_num 1 s (by omega) (by omega) (by omega) (by omega) none 0 0 w
  have O1 := Lib.hid o1
  have O2 := Lib.hid o2
  have O3 := Lib.hid o3
  have hw : IntKind.u8.wrap r = r := by rw [IntKind.wrap_u8]; omega
  have HBR := Lib.hid (byte_row r r0 r1)
  have M0 := Lib.hid ((Mst.start w).new 23 #[.int .i64 i, .int .i64 r, .int .i64 x, .int .i64 s])
  clear o1 o2 o3 i0 i1 x0 x1 s0 s1
  go_enter Try.func54, Try.ntmps54
  go_wp2_with fail
  refine (O1.out _).mono ?_
  rintro e w1 ⟨v1, rfl, f1⟩
  have m1 := M0.out.addr f1
  have c0 := (m1.blk []).cell 0
  have c1 := (m1.blk []).cell 1
  have c2 := (m1.blk []).cell 2
  have c3 := (m1.blk []).cell 3
  simp at c0 c1 c2 c3
  have M1 := Lib.hid m1
  have g1 := (m1.blk []).lt
  clear f1 m1
  go_wp2_with (at_builtin; refine wpList_appM rfl _ _ 26 rfl [] (Mst.alloc M1.out _) el_u8 rfl _ _ 1 1 [.int .u8 r] rfl (Rd.new1 _ #[.int .u8 r] _ rfl) (one1 _ rfl) (by decide) (by decide) ?_; intro A2 k2 w2 s2; have d0 := (s2.blk []).cell 0; have d1 := (s2.blk []).cell 1; have d2 := (s2.blk []).cell 2; have d3 := (s2.blk []).cell 3; simp at d0 d1 d2 d3; have S2 := Lib.hid s2; clear s2 c0 c1 c2 c3)
  refine (O2.out _).mono ?_
  rintro e w3 ⟨v3, rfl, f3⟩
  obtain ⟨A3, k3, rfl, _⟩ := own_form f3.own
  have M3 := Lib.hid (S2.out.addr f3)
  clear f3 d0 d1 d2 d3
  go_wp2_with (at_builtin; refine wpList_appM rfl _ _ 26 rfl [_] M3.out el_u8 rfl _ _ _ _ _ rfl (own_rd (M3.out.row [])) (by8_one _) (by decide) (by decide) ?_; intro A4 k4 w4 s4; have d0 := (s4.blk []).cell 0; have d1 := (s4.blk []).cell 1; have d2 := (s4.blk []).cell 2; have d3 := (s4.blk []).cell 3; simp at d0 d1 d2 d3; have S4 := Lib.hid s4; clear s4)
  refine (O3.out _).mono ?_
  rintro e w5 ⟨v5, rfl, f5⟩
  obtain ⟨A5, k5, rfl, _⟩ := own_form f5.own
  have M5 := Lib.hid (S4.out.addr f5)
  clear f5 d0 d1 d2 d3
  go_wp2_with (at_builtin; refine wpList_appM rfl _ _ 26 rfl [_, _] M5.out el_u8 rfl _ _ _ _ _ rfl (own_rd (M5.out.row [])) (by8_one _) (by decide) (by decide) ?_; intro A6 k6 w6 s6; have S6 := Lib.hid s6; clear s6)
  go_ret
  have a := S6.out.row [_, _]
  have e : by8 (clB i r x s) = by8 (numB (widB 1) i) ++ [Value.int .u8 r] ++ by8 (numB (widB 2) x) ++ by8 (numB (widB 1) s) := by
    unfold clB
    rw [by8_append, by8_append, by8_append, HBR.out]
    rfl
  refine ⟨.slice A6 (widB 1 + 1 + widB 2 + widB 1) k6, rfl, S6.out.bel, ?_⟩
  rw [e]
  exact a

/-- The claims of their own bytes. -/
theorem c9_clB (i r x s : Int) (t : List UInt8) (h : clOk i r x s) : c9 (clB i r x s ++ t) = (i, r, x, s) := by
  obtain ⟨⟨i0, i1⟩, ⟨r0, r1⟩, ⟨x0, x1⟩, ⟨s0, s1⟩⟩ := h
  have e : clB i r x s ++ t = numB 2 i ++ (numB 1 r ++ (numB 4 x ++ (numB 2 s ++ t))) := by simp [clB]
  have d2 : (clB i r x s ++ t).drop 2 = numB 1 r ++ (numB 4 x ++ (numB 2 s ++ t)) := by rw [e]; exact List.drop_left' (numB_length _ _)
  have d3 : (clB i r x s ++ t).drop 3 = numB 4 x ++ (numB 2 s ++ t) := by rw [show 3 = 2 + 1 from rfl, ← List.drop_drop, d2]; exact List.drop_left' (numB_length _ _)
  have d7 : (clB i r x s ++ t).drop 7 = numB 2 s ++ t := by rw [show 7 = 3 + 4 from rfl, ← List.drop_drop, d3]; exact List.drop_left' (numB_length _ _)
  unfold c9
  rw [d2, d3, d7, e, List.take_left' (numB_length _ _), List.take_left' (numB_length _ _), List.take_left' (numB_length _ _), List.take_left' (numB_length _ _),
    valB_numB 2 i (by omega) (by omega), valB_numB 1 r (by omega) (by omega), valB_numB 4 x (by omega) (by omega), valB_numB 2 s (by omega) (by omega)]
theorem parse9_clB (i r x s : Int) (t : List UInt8) (h : clOk i r x s) : parse9 (clB i r x s ++ t) = ((i, r, x, s), 0) := by
  unfold parse9
  rw [if_neg (by simp [clB_length]), c9_clB i r x s t h, if_pos h]
end Go.Proofs.Ytnbemfceoianiaa
