/- WindowCounts: the walk of the law: a counter of any boot tells its nonces, from 1 on; each is taken by a window that took any of a lesser boot. -/
import Derived.Test.YtidphalfafaniaaWinC
import Derived.Test.YtidphalfafaniaaWinK
import Derived.Test.YtidphalfafaniaaEq2
import Derived.Test.YtidphalfafaniaaMst
import Derived.Deep.LoopGhost
import Derived.Deep.RegionWith
namespace Go.Proofs.Ytidphalfafaniaa
set_option linter.unusedVariables false
open Go.RowKit

theorem start_no (b : Int) (w : World) (h : b < 1 ∨ 65535 < b) :
    Calls Try.prog 32 #[.int .i64 b] w fun e w' => e = .returned (.tuple #[.pointer none, .int .i64 10]) ∧ Below w.heap.size w w' := by
  go_enter Try.func32, Try.ntmps32
  go_wp2_with fail
  refine (check_no _ _ _ (by omega)).mono ?_
  rintro e w1 ⟨rfl, hb⟩
  go_wp2
  go_ret2
  exact ⟨rfl, hb⟩
theorem start_yes (b : Int) (w : World) (h1 : 1 ≤ b) (h2 : b ≤ 65535) :
    Calls Try.prog 32 #[.int .i64 b] w fun e w' => ∃ g, e = .returned (.tuple #[.pointer (some ⟨g, 0, none⟩), .int .i64 0]) ∧ w.heap.size ≤ g ∧ Below w.heap.size w w' ∧ Bk w' g 109 #[.int .i64 b, .int .i64 0] := by
  have main : Calls Try.prog 32 #[.int .i64 b] w fun e w' => ∃ w1, Below w.heap.size w w1 ∧ e = .returned (.tuple #[.pointer (some ⟨w1.heap.size, 0, none⟩), .int .i64 0]) ∧ w' = w1.alloc (.cells #[.int .i64 b, .int .i64 0] 109) := by
    go_enter Try.func32, Try.ntmps32
    go_wp2_with fail
    refine (check_yes _ _ _ h1 h2 (by omega) (by omega)).mono ?_
    rintro e w1 ⟨rfl, hb⟩
    have HB := Lib.hid hb
    clear hb
    go_wp2
    go_ret2
    exact ⟨w1, HB.out, rfl, rfl⟩
  refine main.mono ?_
  rintro e w' ⟨w1, hb, rfl, rfl⟩
  exact ⟨_, rfl, hb.size, hb.alloc hb.size _, Bk.mk_ _ _ _⟩

theorem boot12 (g : Nat) (b k : Int) (w : World) (hC : Bk w g 109 #[.int .i64 b, .int .i64 k]) :
    Calls Try.prog 33 #[.pointer (some ⟨g, 0, none⟩)] w fun e w' => e = .returned (.int .i64 b) ∧ Below w.heap.size w w' := by
  have c0 := hC.cell 0
  simp at c0
  clear hC
  go_enter Try.func33, Try.ntmps33
  go_wp2
  go_ret
  exact ⟨rfl, Below.refl _ _⟩

theorem next12 (g : Nat) (b k : Int) (w : World) (hC : Bk w g 109 #[.int .i64 b, .int .i64 k]) (hk : 0 ≤ k) (hk' : k ≤ 1000000) :
    Calls Try.prog 34 #[.pointer (some ⟨g, 0, none⟩)] w fun e w' => e = .returned (.tuple #[.agg #[.int .i64 b, .int .i64 (k + 1)], .int .i64 0]) ∧ On w w' g ∧ Bk w' g 109 #[.int .i64 b, .int .i64 (k + 1)] := by
  have hg := hC.lt
  have c0 := hC.cell 0
  have c1 := hC.cell 1
  have f0 := hC.fr 0
  have f1 := hC.fr 1
  simp at c0 c1
  have HC := Lib.hid hC
  clear hC
  have hne : (k == 2147483647) = false := by simp; omega
  go_enter Try.func34, Try.ntmps34
  go_wp2
  refine bodyPost_ret (v := .tuple #[.agg #[.int .i64 b, .int .i64 (k + 1)], .int .i64 0]) (by simp [results, Try.results34, go_sem]) rfl ⟨rfl, ?_, ?_⟩
  · exact ((On.refl w g).set (p := ⟨g, 1, none⟩) (.inl rfl) _).alloc _
  · exact ((HC.out.put 1 _).alloc _).of_eq (by simp)

theorem takeS_B {B C : Int} {S : Nat} {b c q : Int} (hB : B < q) (hb : b < q) : (takeS B C S b c).1 < q := by
  unfold takeS
  split
  · exact hB
  · split
    · exact hb
    · split
      · exact hb
      · exact hB

namespace Counts
def R1 (W : World) (gw g : Nat) (boot : Int) (wr : World) : Prop :=
  ∃ B C S, winOk B C S ∧ B < boot ∧ Mst W wr [(gw, 27, wcs B C S), (g, 109, #[.int .i64 boot, .int .i64 0])] []
theorem R1_mk {W : World} {gw g : Nat} {boot : Int} {wr : World} {B C : Int} {S : Nat} (h1 : winOk B C S) (h2 : B < boot)
    (h3 : Mst W wr [(gw, 27, wcs B C S), (g, 109, #[.int .i64 boot, .int .i64 0])] []) : R1 W gw g boot wr := ⟨B, C, S, h1, h2, h3⟩
def R2 (W : World) (gw g : Nat) (boot : Int) (j : Nat) (wr : World) : Prop :=
  ∃ B C S, winOk B C S ∧ (B < boot ∨ (B = boot ∧ C ≤ j)) ∧ Mst W wr [(gw, 27, wcs B C S), (g, 109, #[.int .i64 boot, .int .i64 (j : Int)])] []
theorem R2_mk {W : World} {gw g : Nat} {boot : Int} {j : Nat} {wr : World} {B C : Int} {S : Nat} (h1 : winOk B C S) (h2 : B < boot ∨ (B = boot ∧ C ≤ j))
    (h3 : Mst W wr [(gw, 27, wcs B C S), (g, 109, #[.int .i64 boot, .int .i64 (j : Int)])] []) : R2 W gw g boot j wr := ⟨B, C, S, h1, h2, h3⟩
theorem rise {B C : Int} {S : Nat} {b c : Int} (hok : winOk B C S) (h1 : 1 ≤ b) (h2 : b ≤ 65535) (h3 : 1 ≤ c) (h4 : c ≤ 2147483647) (hl : B < b ∨ (B = b ∧ C < c)) : lookV B C S b c = 0 ∧ (takeS B C S b c).1 = b ∧ (takeS B C S b c).2.1 = c := by
  have h0 : lookV B C S b c = 0 := by
    unfold lookV
    rw [if_neg (by omega), if_pos (by omega)]
  refine ⟨h0, ?_⟩
  unfold takeS
  rw [if_neg (by simp [h0])]
  by_cases h : B < b
  · rw [if_pos h]; exact ⟨rfl, rfl⟩
  · rw [if_neg h, if_pos (by omega)]
    exact ⟨rfl, rfl⟩
/-- 'int(uint64(n) % k)'. -/
theorem umod (n k : Int) (h0 : 0 < k) (h1 : k ≤ 4294967296) : ∃ r : Nat, (r : Int) < k ∧ wrap64 ((IntKind.u64.wrap n).tmod k) = (r : Int) := by
  rw [IntKind.wrap_u64]
  have hn : 0 ≤ n % 18446744073709551616 := Int.emod_nonneg _ (by omega)
  rw [Int.tmod_eq_emod_of_nonneg hn]
  have a := Int.emod_nonneg (n % 18446744073709551616) (show k ≠ 0 by omega)
  have b := Int.emod_lt_of_pos (n % 18446744073709551616) h0
  generalize n % 18446744073709551616 % k = q at *
  refine ⟨q.toNat, by omega, ?_⟩
  unfold wrap64
  omega
end Counts
open Counts

set_option maxRecDepth 100000 in
set_option maxHeartbeats 4000000 in
theorem windowCounts_walk (A : Option Addr) (c : Nat) (boot n : Int) (ns : List (Int × Int)) (W : World) (hn : in64 n) (hP : Prs W W.heap.size A ns) (hlen : ns.length ≤ maxLen) :
    Calls Try.prog 7 #[.int .i64 boot, .int .i64 n, .slice A ns.length c] W fun e W' => e = .returned (.bool true) ∧ Below W.heap.size W W' := by
  unfold maxLen at hlen
  have HP := Lib.hid hP
  clear hP
  by_cases hb : boot < 1 ∨ 65535 < boot
  · have hb1 := hb
    go_enter Try.func7, Try.ntmps7
    go_wp2_with fail
    refine (start_no _ _ hb).mono ?_
    rintro e w1 ⟨rfl, h1⟩
    have HB := Lib.hid h1
    clear h1
    rcases hb with hb | hb
    all_goals
      clear hb1
      go_wp2_with fail
      refine (known12 _).mono ?_
      rintro e w2 ⟨rfl, h2⟩
      go_wp2
      go_ret
      exact ⟨rfl, Bsz HB.out h2⟩
  · have hb1 : 1 ≤ boot := by omega
    have hb2 : boot ≤ 65535 := by omega
    clear hb
    have hne := ne_winNonce
    go_enter Try.func7, Try.ntmps7
    go_wp2_with fail
    refine (start_yes _ _ hb1 hb2).mono ?_
    rintro e w1 ⟨g, rfl, hg, h1, hk⟩
    have s1 := (Mst.start W).addb h1 hk hg
    clear h1 hk
    go_wp2_with fail
    refine (s1.calls (boot12 _ _ _ _ (s1.blk []))).mono ?_
    rintro e w2 ⟨rfl, s2⟩
    clear s1
    have s3 := s2.new 27 (wcs 0 0 0)
    have hd1 : decide (boot < 1) = false := by simp; omega
    have hd2 : decide (65535 < boot) = false := by simp; omega
    go_wp2_with fail
    go_loopg [10] (min ns.length 20) (fun gg s10 wr => ∃ k : Nat, k + gg = min ns.length 20 ∧ s10 = .int .i64 k ∧ R1 W w2.heap.size g boot wr)
    case atStart => exact ⟨0, by omega, rfl, R1_mk WinIs.zero.ok (by omega) s3⟩
    case round =>
      obtain ⟨k, hk, rfl, hR⟩ := hrel
      obtain ⟨B, C, S, hok, hBb, s0⟩ := hR
      clear s3 s2
      by_cases hlt : k < ns.length ∧ k < 20
      · obtain ⟨hlt1, hlt2⟩ := hlt
        obtain ⟨b, o, hA, hbB, hcell⟩ := HP.out.at_ (by omega)
        obtain ⟨x, hx⟩ : ∃ x, ns[k]? = some x := ⟨_, List.getElem?_eq_getElem hlt1⟩
        obtain ⟨h0, h1⟩ := hcell k x hx
        clear hcell hx
        subst hA
        have e0 := s0.old hbB h0
        have e1 := s0.old hbB h1
        by_cases hx1 : x.1 < boot
        · go_wp2_with fail
          refine (s0.calls (to12 _ _ _)).mono ?_
          rintro e w4 ⟨rfl, s4⟩
          go_wp2_with fail
          refine (s4.callsOn [] (take_any _ B C S _ _ _ (s4.blk []) hok)).mono ?_
          rintro e w5 ⟨rfl, s5⟩
          have HT := Lib.hid (takeS_ok (b := x.1) (c := x.2) hok)
          have HB := Lib.hid (takeS_B (C := C) (S := S) (c := x.2) hBb hx1)
          clear s4 s0 e0 e1
          go_wp2_with fail
          go_roundg (min ns.length 20 - (k + 1))
          case measure => omega
          case rel => exact ⟨k + 1, by omega, by go_num, R1_mk HT.out HB.out s5⟩
        · go_wp2_with fail
          go_roundg (min ns.length 20 - (k + 1))
          case measure => omega
          case rel => exact ⟨k + 1, by omega, by go_num, R1_mk hok hBb s0⟩
      · obtain ⟨r, hr, her⟩ := umod n 20 (by omega) (by omega)
        have HER := Lib.hid her
        clear her
        go_wp2_with fail
        all_goals
          rw [HER.out]
          go_loopg [11] r (fun gg s11 wx => ∃ j : Nat, j + gg = r ∧ s11 = .int .i64 j ∧ R2 W w2.heap.size g boot j wx)
          case atStart => exact ⟨0, by omega, rfl, R2_mk hok (.inl hBb) s0⟩
          case round =>
            obtain ⟨j, hj, rfl, hR2⟩ := hrel
            obtain ⟨B1, C1, S1, hok1, hBC, t0⟩ := hR2
            clear s0 hok hBb
            by_cases hjl : j < r
            · obtain ⟨hl0, hza, hzb⟩ := rise (S := S1) hok1 (b := boot) (c := (j : Int) + 1) hb1 hb2 (by omega) (by omega) (by omega)
              have HZ := Lib.hid (And.intro hza hzb)
              have HO := Lib.hid (takeS_ok (b := boot) (c := (j : Int) + 1) hok1)
              have hl1 : (lookV B1 C1 S1 boot ((j : Int) + 1) != 0) = false := by simp [hl0]
              have heq : eq2 boot ((j : Int) + 1) boot ((j : Int) + 1) = true := by simp [eq2]
              clear hza hzb hl0
              go_wp2_with fail
              refine (t0.callsOn [_] (next12 _ _ _ _ (t0.blk [_]) (by omega) (by omega))).mono ?_
              rintro e w4 ⟨rfl, t4⟩
              clear t0
              have hzz := t4.bel.size
              go_wp2_with fail
              refine ((t4.alloc _).callsOn [] (take_any _ B1 C1 S1 _ _ _ ((t4.alloc _).blk []) hok1)).mono ?_
              rintro e w5 ⟨rfl, t5⟩
              clear t4
              go_wp2_with fail
              go_roundg (r - (j + 1))
              case measure => omega
              case rel => exact ⟨j + 1, by omega, by go_num, R2_mk HO.out (.inr ⟨HZ.out.1, by rw [HZ.out.2]; simp⟩) t5⟩
            · go_wp2_with fail
              refine (t0.calls (known12 _)).mono ?_
              rintro e w4 ⟨rfl, t4⟩
              go_wp2
              go_ret
              exact ⟨rfl, t4.bel⟩

theorem contract_windowCounts (W : World) (v0 v1 v2 : Value) (a0 : ∃ a, v0 = .int .i64 a ∧ in64 a) (a1 : ∃ a, v1 = .int .i64 a ∧ in64 a) (a2 : ∃ A n c zs, v2 = .slice A n c ∧ n ≤ c ∧ c ≤ maxLen ∧ Flat 2 W A n zs) :
    Calls Try.prog 7 #[v0, v1, v2] W fun e W' => e = .returned (.bool true) ∧ Below W.heap.size W W' := by
  obtain ⟨x, rfl, _⟩ := a0
  obtain ⟨y, rfl, hy⟩ := a1
  obtain ⟨A, n, c, zs, rfl, hn, hc, hf⟩ := a2
  obtain ⟨ns, rfl, hP, _⟩ := hf.prs
  exact windowCounts_walk A c x y ns W hy hP (by omega)
end Go.Proofs.Ytidphalfafaniaa
