/- The document's layer 4: Out of a right field (of Rf4, Rf7, Rc4, for a seat without package claims). -/
import Derived.Test.YtnopmdhjamkoaaaDoorRd2
import Derived.Test.YtnopmdhjamkoaaaDoorWireS
namespace Go.Proofs.YtnopmdhjamkoaaaDoor
set_option linter.unusedVariables false
set_option linter.unusedSimpArgs false
open Go.RowKit
theorem RB.alloc {w : World} {A : Option Addr} {l : List UInt8} (h : RB w w.heap.size A l) (o : Obj) : RB (w.alloc o) (w.alloc o).heap.size A l := (h.below ((Below.refl w.heap.size w).alloc (Nat.le_refl _) _)).more (by simp)
theorem refwidth_is (s : Int) (h0 : 0 ≤ s) (h1 : s ≤ 3) (w : World) : Calls Tryd.prog 93 #[.int .i64 s] w fun e w' => e = .returned (.int .i64 (widB s : Nat)) ∧ w = w' := by
  have i0 : ∀ w, (Instr.index 166 (.agg #[.int .i64 1, .int .i64 2, .int .i64 4, .int .i64 8]) (.int .i64 0)).run Tryd.prog w = .ok (.int .i64 1) w := fun _ => by kernel_rfl
  have i1 : ∀ w, (Instr.index 166 (.agg #[.int .i64 1, .int .i64 2, .int .i64 4, .int .i64 8]) (.int .i64 1)).run Tryd.prog w = .ok (.int .i64 2) w := fun _ => by kernel_rfl
  have i2 : ∀ w, (Instr.index 166 (.agg #[.int .i64 1, .int .i64 2, .int .i64 4, .int .i64 8]) (.int .i64 2)).run Tryd.prog w = .ok (.int .i64 4) w := fun _ => by kernel_rfl
  have i3 : ∀ w, (Instr.index 166 (.agg #[.int .i64 1, .int .i64 2, .int .i64 4, .int .i64 8]) (.int .i64 3)).run Tryd.prog w = .ok (.int .i64 8) w := fun _ => by kernel_rfl
  have hs : s = 0 ∨ s = 1 ∨ s = 2 ∨ s = 3 := by omega
  clear h0 h1
  rcases hs with rfl | rfl | rfl | rfl
  all_goals
    go_enter Tryd.func93, Tryd.ntmps93
    go_wp2
    go_ret
    exact ⟨rfl, rfl⟩

theorem numB_succ (k : Nat) (n : Int) : numB (k + 1) n = nbyte n k :: numB k n := by
  unfold numB
  rw [List.range_succ_eq_map, List.map_cons, List.map_map]
  congr 1
  apply List.map_congr_left
  intro j _
  simp only [Function.comp_apply]
  congr 1
  omega
theorem low_byte (n : Int) (h : 0 ≤ n) (k : Nat) : IntKind.u8.wrap (n / 256 ^ k % 256) = ((nbyte n k).toNat : Int) := by
  obtain ⟨m, rfl⟩ := Int.eq_ofNat_of_zero_le h
  unfold nbyte
  rw [UInt8.toNat_ofNat', IntKind.wrap_u8]
  have : (m : Int) / 256 ^ k = ((m / 256 ^ k : Nat) : Int) := by simp
  rw [this]
  simp only [Int.toNat_natCast]
  omega
theorem div_cast (m k : Nat) : (m : Int) / 256 ^ k = ((m / 256 ^ k : Nat) : Int) := by simp
theorem div_next (n : Int) (h : 0 ≤ n) (k : Nat) : n / 256 ^ k / 256 = n / 256 ^ (k + 1) := by
  obtain ⟨m, rfl⟩ := Int.eq_ofNat_of_zero_le h
  have := Nat.div_div_eq_div_mul m (256 ^ k) 256
  rw [← Nat.pow_succ] at this
  rw [div_cast, div_cast, ← this]
  generalize m / 256 ^ k = a
  omega
theorem div_le (n : Int) (h : 0 ≤ n) (k : Nat) : n / 256 ^ k ≤ n := by
  obtain ⟨m, rfl⟩ := Int.eq_ofNat_of_zero_le h
  have := Nat.div_le_self m (256 ^ k)
  rw [div_cast]
  omega
theorem slice_nn {A : Option Addr} {n m c : Nat} (h : n = m) : Value.slice A n c = .slice A m c := by rw [h]

def RoRel (w : World) (cs : Array Value) (n : Int) (k : Nat) (s3 s4 : Value) (wr : World) : Prop :=
  s4 = .int .i64 (n / 256 ^ k) ∧ ∃ A c, s3 = .slice A k c ∧ Mst w wr [(w.heap.size, 114, cs)] [⟨5, 1, .slice A k c, k, by8 (numB k n)⟩]

set_option maxRecDepth 100000 in
set_option maxHeartbeats 3200000 in
theorem refout_num (s n : Int) (h0 : 0 ≤ s) (h3 : s ≤ 3) (hn0 : 0 ≤ n) (hn : n ≤ 9223372036854775807) (A : Option Addr) (m c : Nat) (w : World) :
    Calls Tryd.prog 72 #[.agg #[.int .i64 s, .int .i64 n, .slice A m c]] w (RetFresh w 5 1 (widB s) (by8 (numB (widB s) n))) := by
  have hs4 : (s == 4) = false := by rw [beq_eq_false_iff_ne]; omega
  have HW := Lib.hid (refwidth_is s h0 h3)
  have hw8 := widB_le s
  obtain ⟨W8, hW8⟩ : ∃ k, widB s = k := ⟨_, rfl⟩
  rw [hW8] at HW hw8 ⊢
  have H0 := Lib.hid (show RoRel w #[.int .i64 s, .int .i64 n, .slice A m c] n 0 (.slice none 0 0) (.int .i64 n) (w.alloc (.cells #[.int .i64 s, .int .i64 n, .slice A m c] 114)) from ⟨by simp, none, 0, rfl, ((Mst.start w).new _ _).nilrow _ _⟩)
  have HN := Lib.hid hn0
  clear hW8
  go_enter Tryd.func72, Tryd.ntmps72
  go_wp2_with fail
  go_loopg [3, 4, 5] W8 (fun gg s3 s4 s5 wr => ∃ k : Nat, k + gg = W8 ∧ s5 = .int .i64 k ∧ RoRel w #[.int .i64 s, .int .i64 n, .slice A m c] n k s3 s4 wr)
  case atStart => exact ⟨0, by omega, rfl, H0.out⟩
  case round =>
    obtain ⟨k, hk, rfl, rfl, A3, c3, rfl, mm⟩ := hrel
    have c0 := (mm.blk []).cell 0
    have c1 := (mm.blk []).cell 1
    simp at c0 c1
    have M := Lib.hid mm
    clear mm
    by_cases hlt : k < W8
    · obtain ⟨q, hq⟩ : ∃ q : Int, n / 256 ^ k = q := ⟨_, rfl⟩
      have hq0 : 0 ≤ q := by rw [← hq]; exact Int.ediv_nonneg HN.out (Int.pow_nonneg (by omega))
      have hb := low_byte n HN.out k
      have hd := div_next n HN.out k
      have hq1 := div_le n HN.out k
      rw [hq] at hb hd hq1 ⊢
      obtain ⟨bt, hbt⟩ : ∃ b, (nbyte n k).toNat = b := ⟨_, rfl⟩
      rw [hbt] at hb
      have HBT := Lib.hid hbt
      have HD := Lib.hid hd
      have HX := Lib.hid (numB_succ k n)
      clear hq hd hbt
      go_wp2_with fail
      refine (HW.out _).mono ?_
      rintro e w' ⟨rfl, rfl⟩
      go_wp2_with (at_builtin; refine wpList_appM rfl _ _ 60 rfl [] (M.out.newrow 5 1 1 1 #[.int .u8 bt] (Nat.le_refl _) (by decide) rfl) el_u8 rfl _ _ _ _ (by8 (numB k n)) rfl (own_rd ((M.out.newrow 5 1 1 1 #[.int .u8 bt] (Nat.le_refl _) (by decide) rfl).row [_])) (by8_one _) (by unfold maxLen; omega) (by omega) ?_; intro A2 c2 w2 s2; have S2 := Lib.hid s2; clear s2)
      go_roundg (W8 - (k + 1))
      case measure => exact meas hk hlt
      case rel =>
        refine ⟨k + 1, meas2 hlt, by go_num, by rw [← HD.out], A2, c2, slice_nn (by omega), ?_⟩
        have a := S2.out.sub (List.Sublist.refl _) (List.Sublist.cons_cons _ (List.nil_sublist _))
        have e : List.take (1 * 1) [Value.int .u8 (bt : Int)] ++ by8 (numB k n) = by8 (numB (k + 1) n) := by rw [HX.out, ← HBT.out]; rfl
        have h1 : 1 + k = k + 1 := by omega
        rw [h1] at a
        show Mst w w2 _ [⟨_, 1, _, k + 1, by8 (numB (k + 1) n)⟩]
        rw [← e]
        exact a
    · obtain rfl : k = W8 := by omega
      go_wp2_with fail
      refine (HW.out _).mono ?_
      rintro e w' ⟨rfl, rfl⟩
      go_wp2_with fail
      go_ret
      exact ⟨_, rfl, M.out.bel, M.out.row []⟩
set_option maxRecDepth 100000 in
set_option maxHeartbeats 1600000 in
theorem refout_some (n : Int) (w : World) (A : Option Addr) (c : Nat) (l : List UInt8) (hl : RB w w.heap.size A l) (hn : l.length ≤ 1000000) :
    Calls Tryd.prog 72 #[.agg #[.int .i64 4, .int .i64 n, .slice A l.length c]] w (RetFresh w 5 1 (2 + l.length) (by8 (numB 2 l.length ++ l))) := by
  have HM := Lib.hid ((Mst.start w).new 114 #[.int .i64 4, .int .i64 n, .slice A l.length c])
  have HL := Lib.hid hl
  clear hl
  obtain ⟨L, hL⟩ : ∃ L, l.length = L := ⟨_, rfl⟩
  have b1 : IntKind.u8.wrap ((L : Int) / 256) = ((nbyte L 1).toNat : Int) := by
    have := low_byte L (by omega) 1
    rw [IntKind.wrap_u8] at this ⊢
    rw [← this, Int.pow_one]
    omega
  have b0 : IntKind.u8.wrap ((L : Int) % 256) = ((nbyte L 0).toNat : Int) := by
    have := low_byte L (by omega) 0
    rw [Int.pow_zero, Int.ediv_one] at this
    exact this
  obtain ⟨x1, hx1⟩ : ∃ x, (nbyte (L : Int) 1) = x := ⟨_, rfl⟩
  obtain ⟨x0, hx0⟩ : ∃ x, (nbyte (L : Int) 0) = x := ⟨_, rfl⟩
  have HN := Lib.hid (show numB 2 (L : Int) = [x1, x0] by rw [← hx1, ← hx0]; rfl)
  rw [hx1] at b1
  rw [hx0] at b0
  obtain ⟨y1, hy1⟩ : ∃ y : Nat, x1.toNat = y := ⟨_, rfl⟩
  obtain ⟨y0, hy0⟩ : ∃ y : Nat, x0.toNat = y := ⟨_, rfl⟩
  rw [hy1] at b1
  rw [hy0] at b0
  rw [hL] at HM ⊢
  have HLL := Lib.hid hL
  have HY1 := Lib.hid hy1
  have HY0 := Lib.hid hy0
  have hm2 := HM.out.newrow 5 1 2 2 #[.int .u8 y1, .int .u8 y0] (Nat.le_refl _) (by decide) rfl
  rw [show (w.alloc (.cells #[.int .i64 4, .int .i64 n, .slice A L c] 114)).heap.size = w.heap.size + 1 from by simp] at hm2
  have HM2 := Lib.hid hm2
  clear hm2
  have i0 : (0 : Int) ≤ (L : Int) := by omega
  rw [hL] at hn
  clear hL hx1 hx0 hy1 hy0
  go_enter Tryd.func72, Tryd.ntmps72
  go_wp2_with (at_builtin; refine wpList_appM rfl _ _ 60 rfl [] HM2.out el_u8 rfl _ _ _ _ (by8 l) rfl (by have := (HL.out.alloc (.cells #[.int .i64 4, .int .i64 n, .slice A L c] 114)).alloc (.cells #[.int .u8 y1, .int .u8 y0] 5); unfold RB at this; rw [HLL.out] at this; exact this) (by8_one _) (by unfold maxLen; omega) (by omega) ?_; intro A2 c2 w2 s2; have S2 := Lib.hid s2; clear s2)
  go_ret
  have a := S2.out
  have e : List.take (2 * 1) [Value.int .u8 (y1 : Int), .int .u8 (y0 : Int)] ++ by8 l = by8 (numB 2 (L : Int) ++ l) := by rw [HN.out, ← HY1.out, ← HY0.out]; rfl
  refine ⟨.slice A2 (2 + L) c2, rfl, a.bel, ?_⟩
  have r := a.row []
  rw [← e]
  exact r

/-- Out of any right field. -/
theorem refout_any (f : Fd) (w : World) (hok : chkB f.s f.n f.l.length = 0) (hn : f.n ≤ 9223372036854775807) (hl : RB w w.heap.size f.A f.l) :
    Calls Tryd.prog 72 #[f.v] w (RetFresh w 5 1 (outB f.s f.n f.l).length (by8 (outB f.s f.n f.l))) := by
  obtain ⟨h0, h1⟩ := chkB_ok _ _ _ hok
  obtain ⟨s, n, A, c, l⟩ := f
  simp only [Fd.v] at *
  rcases h1 with ⟨rfl, rfl, h⟩ | ⟨hs0, hs3, h⟩
  · have := refout_some 0 w A c l hl (by omega)
    have e : outB 4 0 l = numB 2 l.length ++ l := rfl
    rw [e, List.length_append, numB_length]
    exact this
  · have := refout_num s n hs0 hs3 h0 hn A l.length c w
    have e : outB s n l = numB (widB s) n := by unfold outB; rw [if_neg (by omega)]
    rw [e, numB_length]
    exact this
end Go.Proofs.YtnopmdhjamkoaaaDoor
