/- WindowPlays: the walk of the law: whatever nonces are taken, each answer, and the latest one, is the document's. -/
import Derived.Test.YtidphalfafaniaaWinL
namespace Go.Proofs.Ytidphalfafaniaa
set_option linter.unusedVariables false
open Go.RowKit

namespace Plays
theorem info_ref : (Try.prog.info? 28).map (fun i => (i.zero, i.size, i.bytes)) = some (some (.agg #[.int .i64 0, .int .i64 0]), 2, 16) := by kernel_rfl
theorem info_win : (Try.prog.info? 24).map (fun i => (i.zero, i.size, i.bytes)) = some (some (.agg #[.int .i64 0, .int .i64 0]), 2, 16) := by kernel_rfl

def R1 (W : World) (k : Nat) (s6 : Value) (wr : World) : Prop :=
  ∃ m B C S, m.length ≤ k ∧ WinIs B C S m ∧ Mst W wr [(W.heap.size, 27, wcs B C S)] [⟨28, 2, s6, m.length, prs m⟩]
theorem R1_mk {W : World} {k : Nat} {s6 : Value} {wr : World} {m : List (Int × Int)} {B C : Int} {S : Nat} (h1 : m.length ≤ k) (h2 : WinIs B C S m)
    (h3 : Mst W wr [(W.heap.size, 27, wcs B C S)] [⟨28, 2, s6, m.length, prs m⟩]) : R1 W k s6 wr := ⟨m, B, C, S, h1, h2, h3⟩
def R2 (W : World) (B C : Int) (S : Nat) (s6 : Value) (m : List (Int × Int)) (s10 : Value) (j : Nat) (tk : List (Int × Int)) (wr : World) : Prop :=
  ∃ al, al = tk ∧ al.length = j ∧ Mst W wr [(W.heap.size, 27, wcs B C S)] [⟨24, 2, s10, al.length, prs al⟩, ⟨28, 2, s6, m.length, prs m⟩]
theorem R2_mk {W : World} {B C : Int} {S : Nat} {s6 : Value} {m : List (Int × Int)} {s10 : Value} {j : Nat} {tk al : List (Int × Int)} {wr : World} (h1 : al = tk) (h2 : al.length = j)
    (h3 : Mst W wr [(W.heap.size, 27, wcs B C S)] [⟨24, 2, s10, al.length, prs al⟩, ⟨28, 2, s6, m.length, prs m⟩]) : R2 W B C S s6 m s10 j tk wr := ⟨al, h1, h2, h3⟩
end Plays
open Plays

set_option maxRecDepth 100000 in
set_option maxHeartbeats 4000000 in
theorem windowPlays_walk (A A' : Option Addr) (c c' : Nat) (ns ks : List (Int × Int)) (W : World) (hP : Prs W W.heap.size A ns) (hQ : Prs W W.heap.size A' ks) (hlen : ns.length ≤ maxLen) (hlen' : ks.length ≤ maxLen) :
    Calls Try.prog 6 #[.slice A ns.length c, .slice A' ks.length c'] W fun e W' => e = .returned (.bool true) ∧ Below W.heap.size W W' := by
  unfold maxLen at hlen hlen'
  have HP := Lib.hid hP
  have HQ := Lib.hid hQ
  clear hP hQ
  have hNe := ne_refNonce
  obtain ⟨N, hN1, hN2, hN3⟩ : ∃ N : Nat, N ≤ ns.length ∧ N ≤ 60 ∧ (N = ns.length ∨ N = 60) := ⟨min ns.length 60, by omega, by omega, by omega⟩
  obtain ⟨M, hM1, hM2, hM3⟩ : ∃ N : Nat, N ≤ ks.length ∧ N ≤ 20 ∧ (N = ks.length ∨ N = 20) := ⟨min ks.length 20, by omega, by omega, by omega⟩
  go_enter Try.func6, Try.ntmps6
  go_wp2
  go_loopg [6, 7] N (fun g s6 s7 wr => ∃ k : Nat, k + g = N ∧ s7 = .int .i64 k ∧ R1 W k s6 wr)
  case atStart => exact ⟨0, by omega, rfl, R1_mk (m := []) (by simp) WinIs.zero (((Mst.start W).new 27 (wcs 0 0 0)).nilrow _ _)⟩
  case round =>
    obtain ⟨k, hk, rfl, hR⟩ := hrel
    obtain ⟨m, B, C, S, hmk, hI, s0⟩ := hR
    by_cases hlt : k < ns.length ∧ k < 60
    · obtain ⟨hlt1, hlt2⟩ := hlt
      obtain ⟨b, o, hA, hbB, hcell⟩ := HP.out.at_ (by omega)
      obtain ⟨x, hx⟩ : ∃ x, ns[k]? = some x := ⟨_, List.getElem?_eq_getElem hlt1⟩
      obtain ⟨h0, h1⟩ := hcell k x hx
      clear hcell hx
      subst hA
      obtain ⟨A6, c6, hA6, hr6, _, _, _⟩ := own_form (s0.row [])
      subst hA6
      have e0 := s0.old hbB h0
      have e1 := s0.old hbB h1
      have HI := Lib.hid hI
      have HT : Hid (0 ≤ (latP m).2 ∧ (latP m).2 ≤ 2147483647) := by rw [hI.latest]; exact ⟨hI.ok.2.2.1, hI.ok.2.2.2.1⟩
      clear hI
      go_wp2_with fail
      refine (s0.calls (look12 A6 c6 m x.1 x.2 _ hr6 (by omega) HT.out.1 HT.out.2)).mono ?_
      rintro e w1 ⟨rfl, s1⟩
      rw [HI.out.look]
      clear s0 e0 e1 hr6 HT
      have e0 := s1.old hbB h0
      have e1 := s1.old hbB h1
      go_wp2_with fail
      refine (s1.calls (to12 _ _ _)).mono ?_
      rintro e w2 ⟨rfl, s2⟩
      clear s1 e0 e1
      go_wp2_with fail
      refine (s2.calls (look_any _ B C S _ _ _ (s2.blk []) HI.out.ok)).mono ?_
      rintro e w3 ⟨rfl, s3⟩
      clear s2
      have e0 := s3.old hbB h0
      have e1 := s3.old hbB h1
      have hsame : (lookV B C S x.1 x.2 != lookV B C S x.1 x.2) = false := by simp
      go_wp2_with fail
      refine (s3.calls (to12 _ _ _)).mono ?_
      rintro e w4 ⟨rfl, s4⟩
      clear s3 e0 e1
      go_wp2_with fail
      refine (s4.callsOn [] (take_any _ B C S _ _ _ (s4.blk []) HI.out.ok)).mono ?_
      rintro e w5 ⟨rfl, s5⟩
      clear s4
      by_cases hl : lookV B C S x.1 x.2 = 0
      · have hl1 : (lookV B C S x.1 x.2 == 0) = true := by simp [hl]
        have HI2 := Lib.hid (HI.out.take hl)
        clear hl HI
        have e0 := s5.old hbB h0
        have e1 := s5.old hbB h1
        obtain ⟨i0, hi, hz0, hz1, hz2⟩ := info_parts info_ref
        go_wp2_with (at_builtin; refine wpList_append_lies _ rfl _ _ 22 rfl W.heap.size 28 i0 _ 2 16 Try.underlying22 hi hz0 hz1 hz2 rfl (by omega) _ _ _ rfl ((s5.alloc _).row []) ⟨w5.heap.size, 0, none⟩ 1 1 [.int .i64 x.1, .int .i64 x.2] rfl rfl (World.news_of_block (heap_alloc_new _ _)) ?c2 (by omega) ?c3 ?c4 ?c5 _ rfl ?_)
        case c2 => intro u hu; simp at hu; rcases hu with rfl | rfl <;> rfl
        case c3 => unfold maxLen; omega
        case c4 => omega
        case c5 => exact (s5.alloc _).bel.size
        intro g6 cap6 w6 hown hgrow hat _
        have s6 := (s5.alloc _).appL [] hgrow hown (by simpa using hat) (n3 := (m ++ [x]).length) (xs3 := prs (m ++ [x])) (by simp) (by rw [prs_append]; rfl)
        clear hown hgrow hat s5 hi hz0 hz1 hz2 e0 e1
        go_wp2_with fail
        refine (s6.calls (latest_any _ _ _ _ _ (s6.blk []))).mono ?_
        rintro e w7 ⟨rfl, s7⟩
        go_wp2_with fail
        refine (s7.calls (of12 _ _ _)).mono ?_
        rintro e w8 ⟨rfl, s8⟩
        have hr8 := own_rd (s8.row [])
        go_wp2_with fail
        have hlat := latest12 (some ⟨g6, 0, none⟩) cap6 (m ++ [x]) w8 hr8 (by simp; omega)
        rw [show (m ++ [x]).length = m.length + 1 by simp, HI2.out.latest] at hlat
        refine (s8.calls hlat).mono ?_
        rintro e w9 ⟨rfl, s9⟩
        clear s6 s7 s8 hr8 hlat
        have hq : eq2 (takeS B C S x.1 x.2).1 (takeS B C S x.1 x.2).2.1 (takeS B C S x.1 x.2).1 (takeS B C S x.1 x.2).2.1 = true := by simp [eq2]
        go_wp2_with fail
        go_roundg (N - (k + 1))
        case measure => omega
        case rel => exact ⟨k + 1, by omega, by go_num, R1_mk (by simp; omega) HI2.out s9⟩
      · have hl1 : (lookV B C S x.1 x.2 == 0) = false := by simpa using hl
        have HI2 := Lib.hid (HI.out.not_taken hl)
        clear hl HI
        go_wp2_with fail
        refine (s5.calls (latest_any _ _ _ _ _ (s5.blk []))).mono ?_
        rintro e w7 ⟨rfl, s7⟩
        go_wp2_with fail
        refine (s7.calls (of12 _ _ _)).mono ?_
        rintro e w8 ⟨rfl, s8⟩
        have hr8 := own_rd (s8.row [])
        go_wp2_with fail
        have hlat := latest12 A6 c6 m w8 hr8 (by omega)
        rw [HI2.out.latest] at hlat
        refine (s8.calls hlat).mono ?_
        rintro e w9 ⟨rfl, s9⟩
        clear s5 s7 s8 hr8 hlat
        have hq : eq2 (takeS B C S x.1 x.2).1 (takeS B C S x.1 x.2).2.1 (takeS B C S x.1 x.2).1 (takeS B C S x.1 x.2).2.1 = true := by simp [eq2]
        go_wp2_with fail
        go_roundg (N - (k + 1))
        case measure => omega
        case rel => exact ⟨k + 1, by omega, by go_num, R1_mk (by omega) HI2.out s9⟩
    · have HI := Lib.hid hI
      clear hI
      obtain ⟨A6, c6, hA6, _, _, _, _⟩ := own_form (s0.row [])
      subst hA6
      go_wp2_with fail
      all_goals
        go_loopg [9, 10, 11] M (fun g s9 s10 s11 wx => ∃ j : Nat, j + g = M ∧ s11 = .int .i64 j ∧ s9 = .int .i64 (cntW B C S (ks.take j)) ∧ R2 W B C S (.slice A6 m.length c6) m s10 j (ks.take j) wx)
        case atStart => exact ⟨0, by omega, rfl, rfl, R2_mk (al := []) rfl rfl (s0.nilrow _ _)⟩
        case round =>
          obtain ⟨j, hj, rfl, rfl, hR2⟩ := hrel
          obtain ⟨al, hal, haj, t0⟩ := hR2
          have Hal := Lib.hid hal
          have ha1 : al.length ≤ j := by omega
          have ha2 : j ≤ al.length := by omega
          clear hal s0 haj
          by_cases hjl : j < ks.length ∧ j < 20
          · obtain ⟨hj1, hj2⟩ := hjl
            have hjM : j < M := by omega
            obtain ⟨b2, o2, hA2, hbB2, hcell2⟩ := HQ.out.at_ (by omega)
            obtain ⟨y, hy⟩ : ∃ y, ks[j]? = some y := ⟨_, List.getElem?_eq_getElem hj1⟩
            obtain ⟨d0, d1⟩ := hcell2 j y hy
            clear hcell2
            have Hy := Lib.hid hy
            clear hy
            subst hA2
            have hr6 := own_rd (t0.row [_])
            have hml : m.length ≤ 1000000 := by omega
            have hb1 : al.length + 1 ≤ maxLen := by unfold maxLen; omega
            have hb2 : (al.length + 1) * 16 ≤ 140737488355328 := by omega
            have e0 := t0.old hbB2 d0
            have e1 := t0.old hbB2 d1
            have hcl := cntW_le B C S ks j
            go_wp2_with fail
            refine (t0.calls (look12 A6 c6 m y.1 y.2 _ hr6 hml (by rw [HI.out.latest]; exact HI.out.ok.2.2.1) (by rw [HI.out.latest]; exact HI.out.ok.2.2.2.1))).mono ?_
            rintro e w1 ⟨rfl, t1⟩
            rw [HI.out.look]
            clear t0 e0 e1 hr6
            have e0 := t1.old hbB2 d0
            have e1 := t1.old hbB2 d1
            go_wp2_with fail
            refine (t1.calls (to12 _ _ _)).mono ?_
            rintro e w2 ⟨rfl, t2⟩
            clear t1 e0 e1
            go_wp2_with fail
            refine (t2.calls (look_any _ B C S _ _ _ (t2.blk []) HI.out.ok)).mono ?_
            rintro e w3 ⟨rfl, t3⟩
            clear t2
            have e0 := t3.old hbB2 d0
            have e1 := t3.old hbB2 d1
            have hsame : (lookV B C S y.1 y.2 != lookV B C S y.1 y.2) = false := by simp
            by_cases h8 : (lookV B C S y.1 y.2 == 8) = true
            all_goals
              first
                | (have HC := Lib.hid (cntW_yes Hy.out h8))
                | (have h8' : (lookV B C S y.1 y.2 == 8) = false := by simpa using h8
                   have HC := Lib.hid (cntW_no Hy.out h8')
                   clear h8)
              go_wp2_with fail
              refine (t3.calls (to12 _ _ _)).mono ?_
              rintro e w4 ⟨rfl, t4⟩
              clear t3 e0 e1
              obtain ⟨i0, hi, hz0, hz1, hz2⟩ := info_parts info_win
              obtain ⟨A9, c9, hA9, hr9, _, _, _⟩ := own_form (t4.row [])
              subst hA9
              go_wp2_with (at_builtin; refine wpList_append_lies _ rfl _ _ 38 rfl W.heap.size 24 i0 _ 2 16 Try.underlying38 hi hz0 hz1 hz2 rfl (by decide) (.slice A9 al.length c9) al.length (prs al) rfl ((t4.alloc _).row []) ⟨w4.heap.size, 0, none⟩ 1 1 [.int .i64 y.1, .int .i64 y.2] rfl rfl (World.news_of_block (heap_alloc_new _ _)) (oc2 _ _) Nat.one_pos hb1 hb2 (t4.alloc _).bel.size _ rfl ?_; intro g6 cap6 w6 hown hgrow hat _)
              have t6 := (t4.alloc _).appL [] hgrow hown (by simpa using hat) (n3 := (al ++ [y]).length) (xs3 := prs (al ++ [y])) (by simp) (by rw [prs_append]; rfl)
              clear hown hgrow hat t4 hi hz0 hz1 hz2 hr9
              have HL : Hid ((al ++ [y]).length = j + 1) := by show _ = _; rw [List.length_append, List.length_singleton]; exact congrArg (· + 1) (Nat.le_antisymm ha1 ha2)
              have HA : Hid (al ++ [y] = ks.take (j + 1)) := by
                show _ = _
                rw [Hal.out, List.take_add_one, Hy.out]; rfl
              go_wp2_with fail
              go_roundg (M - (j + 1))
              case measure => exact meas hj hjM
              case rel => exact ⟨j + 1, meas2 hjM, by go_num, by rw [HC.out] <;> go_num, R2_mk HA.out HL.out t6⟩
          · obtain ⟨A9, c9, hA9, hr9, _, _, _⟩ := own_form (t0.row [])
            subst hA9
            have HT := Lib.hid t0
            have HC : Hid (cntW B C S (ks.take j) = cntW B C S al) := by show _ = _; rw [Hal.out]
            clear t0
            go_wp2_with fail
            all_goals
              refine (HT.out.calls (known12 _)).mono ?_
              rintro e w1 ⟨rfl, t1⟩
              have hr1 := own_rd (t1.row [])
              go_wp2_with fail
              rw [HC.out]
              refine (t1.calls (taken_any _ B C S A9 c9 al _ (t1.blk []) HI.out.ok hr1 (by omega))).mono ?_
              rintro e w2 ⟨rfl, t2⟩
              have heq : ((cntW B C S al : Int) == (cntW B C S al : Int)) = true := by simp
              go_wp2
              go_ret
              exact ⟨rfl, t2.bel⟩

theorem contract_windowPlays (W : World) (v0 v1 : Value) (a0 : ∃ A n c zs, v0 = .slice A n c ∧ n ≤ c ∧ c ≤ maxLen ∧ Flat 2 W A n zs) (a1 : ∃ A n c zs, v1 = .slice A n c ∧ n ≤ c ∧ c ≤ maxLen ∧ Flat 2 W A n zs) :
    Calls Try.prog 6 #[v0, v1] W fun e W' => e = .returned (.bool true) ∧ Below W.heap.size W W' := by
  obtain ⟨A, n, c, zs, rfl, hn, hc, hf⟩ := a0
  obtain ⟨A', n', c', zs', rfl, hn', hc', hf'⟩ := a1
  obtain ⟨ns, rfl, hP, _⟩ := hf.prs
  obtain ⟨ks, rfl, hQ, _⟩ := hf'.prs
  exact windowPlays_walk A A' c c' ns ks W hP hQ (by omega) (by omega)
end Go.Proofs.Ytidphalfafaniaa
