/- WindowShuffles: the walk of the law: of a boot's nonces 1 to n, in any order, each is taken the first time, and none a second one. -/
import Derived.Test.YtidphalfafaniaaWindowCounts
import Derived.Test.YtidphalfafaniaaWinL
import Derived.Deep.QuietTactic
import Derived.BigQuiet
namespace Go.Proofs.Ytidphalfafaniaa
set_option linter.unusedVariables false
open Go.RowKit

namespace Shuf
theorem info_win : (Try.prog.info? 24).map (fun i => (i.zero, i.size, i.bytes)) = some (some (.agg #[.int .i64 0, .int .i64 0]), 2, 16) := by kernel_rfl
/-- n different nonces of a boot, from 1 to n. -/
structure SI (boot : Int) (n : Nat) (al : List (Int × Int)) : Prop where
  len : al.length = n
  nd : al.Nodup
  rng : ∀ x ∈ al, x.1 = boot ∧ 1 ≤ x.2 ∧ x.2 ≤ n
theorem SI.nil (boot : Int) : SI boot 0 [] := ⟨rfl, by simp, by simp⟩
theorem SI.snoc {boot : Int} {n : Nat} {al : List (Int × Int)} (h : SI boot n al) : SI boot (n + 1) (al ++ [(boot, 1 + (n : Int))]) := by
  refine ⟨by simp [h.len], ?_, ?_⟩
  · rw [List.nodup_append]
    refine ⟨h.nd, by simp, ?_⟩
    intro a ha b hb e
    simp at hb
    subst hb e
    have := h.rng _ ha
    simp at this
    omega
  · intro x hx
    rcases List.mem_append.1 hx with hx | hx
    · have := h.rng x hx; omega
    · simp at hx; subst hx; simp; omega
theorem own_cells {w : World} {base e : Nat} {g n c : Nat} {m : List (Int × Int)} (h : w.ownsRow base e 2 (.slice (some ⟨g, 0, none⟩) n c) n (prs m)) {j : Nat} {y : Int × Int} (hj : m[j]? = some y) :
    w.cell? ⟨g, j * 2, none⟩ = some (.int .i64 y.1) ∧ w.cell? ⟨g, j * 2 + 1, none⟩ = some (.int .i64 y.2) ∧ w.frozen? ⟨g, j * 2, none⟩ = false ∧ w.frozen? ⟨g, j * 2 + 1, none⟩ = false := by
  have a := h.cells (g := g) rfl _ _ (prs_get hj).1
  have b := h.cells (g := g) rfl _ _ (prs_get hj).2
  rw [WideShapes.add_plain] at a b
  simp only [Nat.zero_add] at a b
  exact ⟨a, b, h.frozenAt _, h.frozenAt _⟩
theorem row_cell {w : World} {base e size g n c : Nat} {xs : List Value} (h : w.ownsRow base e size (.slice (some ⟨g, 0, none⟩) n c) n xs) {j : Nat} {u : Value} (hj : xs[j]? = some u) : w.cell? ⟨g, j, none⟩ = some u := by
  have a := h.cells (g := g) rfl _ _ hj
  rw [WideShapes.add_plain] at a
  simpa using a
theorem row_some {w : World} {base e size n c : Nat} {A : Option Addr} {xs : List Value} (h : w.ownsRow base e size (.slice A n c) n xs) (hn : 0 < n) : ∃ g, A = some ⟨g, 0, none⟩ ∧ g < w.heap.size ∧ n ≤ c := by
  obtain ⟨A', c', e1, _, _, h3, h2⟩ := own_form h
  injection e1 with e1 _ e3
  subst e1 e3
  obtain ⟨g, hg, _, hlt⟩ := h2 hn
  exact ⟨g, hg, hlt, h3⟩
def R1 (W : World) (boot : Int) (k : Nat) (s7 : Value) (wr : World) : Prop := ∃ al, SI boot k al ∧ Mst W wr [] [⟨24, 2, s7, al.length, prs al⟩]
theorem R1_mk {W : World} {boot : Int} {k : Nat} {s7 : Value} {wr : World} {al : List (Int × Int)} (h1 : SI boot k al) (h2 : Mst W wr [] [⟨24, 2, s7, al.length, prs al⟩]) : R1 W boot k s7 wr := ⟨al, h1, h2⟩
def R2 (W : World) (boot : Int) (n : Nat) (A7 : Option Addr) (c7 : Nat) (wr : World) : Prop := ∃ al, SI boot n al ∧ Mst W wr [] [⟨24, 2, .slice A7 n c7, n, prs al⟩]
theorem R2_mk {W : World} {boot : Int} {n : Nat} {A7 : Option Addr} {c7 : Nat} {wr : World} {al : List (Int × Int)} (h1 : SI boot n al) (h2 : Mst W wr [] [⟨24, 2, .slice A7 n c7, n, prs al⟩]) : R2 W boot n A7 c7 wr := ⟨al, h1, h2⟩
def R3 (W : World) (gw n : Nat) (A7 : Option Addr) (c7 : Nat) (bl : List (Int × Int)) (i : Nat) (wr : World) : Prop :=
  ∃ B C S, WinIs B C S (bl.take i) ∧ Mst W wr [(gw, 27, wcs B C S)] [⟨24, 2, .slice A7 n c7, n, prs bl⟩]
theorem R3_mk {W : World} {gw n : Nat} {A7 : Option Addr} {c7 : Nat} {bl : List (Int × Int)} {i : Nat} {wr : World} {B C : Int} {S : Nat} (h1 : WinIs B C S (bl.take i))
    (h2 : Mst W wr [(gw, 27, wcs B C S)] [⟨24, 2, .slice A7 n c7, n, prs bl⟩]) : R3 W gw n A7 c7 bl i wr := ⟨B, C, S, h1, h2⟩
theorem prs_set : ∀ (ns : List (Int × Int)) (k : Nat) (y : Int × Int), prs (ns.set k y) = ((prs ns).set (k * 2) (.int .i64 y.1)).set (k * 2 + 1) (.int .i64 y.2)
  | [], k, y => by simp [prs]
  | x :: ns, 0, y => by simp [prs_cons]
  | x :: ns, k + 1, y => by
    rw [List.set_cons_succ, prs_cons, prs_cons, prs_set ns k y, show (k + 1) * 2 = k * 2 + 1 + 1 by omega]
    simp [List.set_cons_succ]
theorem prs_take {w : World} {B n k g : Nat} {ns : List (Int × Int)} (h : Rd w B 2 (some ⟨g, 0, none⟩) n (prs ns)) : Prs w B (some ⟨g, 0, none⟩) (ns.take k) := by
  refine ⟨prs_length _, fun hk => ?_⟩
  have hn : 0 < n := by
    have := h.1
    rw [prs_length] at this
    simp at hk
    omega
  obtain ⟨b, o, e, hb, hc⟩ := h.2 hn
  refine ⟨b, o, e, hb, fun j u hu => hc j u ?_⟩
  have hp : prs ns = prs (ns.take k) ++ prs (ns.drop k) := by rw [← prs_append, List.take_append_drop]
  rw [hp, List.getElem?_append_left]
  · exact hu
  · rcases Nat.lt_or_ge j (prs (ns.take k)).length with hl | hl
    · exact hl
    · rw [List.getElem?_eq_none hl] at hu; cases hu
theorem SI.swap {boot : Int} {n : Nat} {al : List (Int × Int)} (h : SI boot n al) {i j : Nat} {x y : Int × Int} (hx : al[i]? = some x) (hy : al[j]? = some y) : SI boot n ((al.set i y).set j x) := by
  obtain ⟨hi, rfl⟩ := List.getElem?_eq_some_iff.1 hx
  obtain ⟨hj, rfl⟩ := List.getElem?_eq_some_iff.1 hy
  have hp := List.set_set_perm hi hj
  refine ⟨by rw [hp.length_eq, h.len], hp.nodup_iff.2 h.nd, fun z hz => h.rng z (hp.mem_iff.1 hz)⟩
theorem SI.latest {boot : Int} {n : Nat} {al m : List (Int × Int)} {B C : Int} {S : Nat} (h : SI boot n al) (hb : 1 ≤ boot) (hn : n ≤ 64) (hI : WinIs B C S m) (hm : ∀ z ∈ m, z ∈ al) {x : Int × Int} (hx : x ∈ al) :
    okN x.1 x.2 = true ∧ ¬ (x.1 < (latP m).1 ∨ (x.1 = (latP m).1 ∧ x.2 ≤ (latP m).2 - 64)) ∨ boot > 65535 := by
  by_cases hbb : boot > 65535
  · exact .inr hbb
  · left
    have hr := h.rng x hx
    refine ⟨by simp [okN]; omega, ?_⟩
    rw [hI.latest]
    rcases hI.inn with ⟨_, rfl, rfl⟩ | hin
    · simp only; omega
    · have := h.rng _ (hm _ hin)
      simp only at this ⊢
      omega
theorem SI.fresh {boot : Int} {n : Nat} {al : List (Int × Int)} {B C : Int} {S : Nat} (h : SI boot n al) (hb : 1 ≤ boot) (hb2 : boot ≤ 65535) (hn : n ≤ 64) {i : Nat} (hI : WinIs B C S (al.take i)) {x : Int × Int} (hx : al[i]? = some x) : lookV B C S x.1 x.2 = 0 := by
  rw [← hI.look]
  rcases h.latest hb hn hI (fun z hz => List.mem_of_mem_take hz) (List.mem_of_getElem? hx) with ⟨h1, h2⟩ | h1
  · refine lookR_out h1 h2 ?_
    intro hm
    obtain ⟨k, hk⟩ := List.mem_iff_getElem?.1 hm
    rw [List.getElem?_take] at hk
    split at hk
    · rename_i hki
      obtain ⟨h3, h4⟩ := List.getElem?_eq_some_iff.1 hk
      obtain ⟨h5, h6⟩ := List.getElem?_eq_some_iff.1 hx
      exact (List.pairwise_iff_getElem.1 h.nd k i h3 h5 hki) (h4.trans h6.symm)
    · cases hk
  · omega
theorem SI.eight {boot : Int} {n : Nat} {al m : List (Int × Int)} {B C : Int} {S : Nat} (h : SI boot n al) (hb : 1 ≤ boot) (hb2 : boot ≤ 65535) (hn : n ≤ 64) (hI : WinIs B C S m) (hm : ∀ z ∈ m, z ∈ al) {x : Int × Int} (hx : x ∈ m) : lookV B C S x.1 x.2 = 8 := by
  rw [← hI.look]
  rcases h.latest hb hn hI hm (hm x hx) with ⟨h1, h2⟩ | h1
  · exact lookR_in h1 h2 hx
  · omega
theorem SI.all8 {boot : Int} {n : Nat} {al m l : List (Int × Int)} {B C : Int} {S : Nat} (h : SI boot n al) (hb : 1 ≤ boot) (hb2 : boot ≤ 65535) (hn : n ≤ 64) (hI : WinIs B C S m) (hl : ∀ z ∈ l, z ∈ m) (hm : ∀ z ∈ m, z ∈ al) : cntW B C S l = l.length := by
  unfold cntW
  rw [List.filter_eq_self.2]
  intro x hx
  simp [h.eight hb hb2 hn hI hm (hl x hx)]
end Shuf
open Shuf

set_option maxRecDepth 100000 in
set_option maxHeartbeats 4000000 in
theorem windowShuffles_walk (A : Option Addr) (c : Nat) (boot0 n0 : Int) (zs : List Int) (len : Nat) (W : World) (hF : Flat 1 W A len zs) (hlen : len ≤ maxLen) :
    Calls Try.prog 4 #[.int .i64 boot0, .int .i64 n0, .slice A len c] W fun e W' => e = .returned (.bool true) ∧ Below W.heap.size W W' := by
  unfold maxLen at hlen
  have HF := Lib.hid hF
  clear hF
  obtain ⟨r, hr, her⟩ := Counts.umod boot0 65535 (by omega) (by omega)
  obtain ⟨n, hn, hen⟩ := Counts.umod n0 65 (by omega) (by omega)
  have HER := Lib.hid her
  have HEN := Lib.hid hen
  clear her hen
  go_enter Try.func4, Try.ntmps4
  have hr2 := hr
  go_wp2_with fail
  rw [HER.out, HEN.out]
  have hb : wrap64 (1 + (r : Int)) = 1 + (r : Int) := by unfold wrap64; omega
  rw [hb]
  clear hb
  obtain ⟨boot, hboot⟩ : ∃ boot : Int, boot = 1 + (r : Int) := ⟨_, rfl⟩
  rw [← hboot]
  have hb1 : 1 ≤ boot := by omega
  have hb2 : boot ≤ 65535 := by omega
  clear hboot hr hr2
  have hn2 : n ≤ 64 := by omega
  go_loopg [7, 8] n (fun gg s7 s8 wr => ∃ k : Nat, k + gg = n ∧ s8 = .int .i64 k ∧ R1 W boot k s7 wr)
  case atStart => exact ⟨0, by omega, rfl, R1_mk (SI.nil boot) ((Mst.start W).nilrow _ _)⟩
  case round =>
    obtain ⟨k, hk, rfl, hR⟩ := hrel
    obtain ⟨al, hI, s0⟩ := hR
    have ha1 : al.length ≤ k := by have := hI.len; omega
    have ha2 : k ≤ al.length := by have := hI.len; omega
    have HI := Lib.hid hI
    clear hI
    obtain ⟨A7, c7, hA7, _, _, _, hg7⟩ := own_form (s0.row [])
    subst hA7
    by_cases hlt : k < n
    · have hb1' : al.length + 1 ≤ maxLen := by unfold maxLen; omega
      have hb2' : (al.length + 1) * 16 ≤ 140737488355328 := by omega
      obtain ⟨i0, hi, hz0, hz1, hz2⟩ := info_parts info_win
      go_wp2_with (at_builtin; refine wpList_append_lies _ rfl _ _ 38 rfl W.heap.size 24 i0 _ 2 16 Try.underlying38 hi hz0 hz1 hz2 rfl (by decide) (.slice A7 al.length c7) al.length (prs al) rfl ((s0.alloc _).row []) ⟨wr.heap.size, 0, none⟩ 1 1 [.int .i64 boot, .int .i64 (1 + (k : Int))] rfl rfl (World.news_of_block (heap_alloc_new _ _)) (oc2 _ _) Nat.one_pos hb1' hb2' (s0.alloc _).bel.size _ rfl ?_; intro g6 cap6 w6 hown hgrow hat _)
      have s6 := (s0.alloc _).appL [] hgrow hown (by simpa using hat) (n3 := (al ++ [(boot, 1 + (k : Int))]).length) (xs3 := prs (al ++ [(boot, 1 + (k : Int))])) (by simp) (by rw [prs_append]; rfl)
      clear hown hgrow hat s0 hi hz0 hz1 hz2
      have HI2 := Lib.hid HI.out.snoc
      go_wp2_with fail
      go_roundg (n - (k + 1))
      case measure => exact meas hk hlt
      case rel => exact ⟨k + 1, meas2 hlt, by go_num, R1_mk HI2.out s6⟩
    · have HI3 : Hid (SI boot n al) := by
        have e : k = n := by omega
        have := HI.out
        rw [e] at this
        exact this
      have hln : al.length = n := HI3.out.len
      rw [hln] at s0 ⊢
      clear HI ha1 ha2 hln hg7
      go_wp2_with fail
      go_loopg [9] (min len 64) (fun gg s9 wx => ∃ j : Nat, j + gg = min len 64 ∧ s9 = .int .i64 j ∧ R2 W boot n A7 c7 wx)
      case atStart => exact ⟨0, by omega, rfl, R2_mk HI3.out s0⟩
      case round =>
        obtain ⟨j, hj, rfl, hR2⟩ := hrel
        obtain ⟨bl, hJ, t0⟩ := hR2
        clear HI3 s0
        by_cases hjl : j < len ∧ j < 64 ∧ 0 < n
        · obtain ⟨hj1, hj2, hj3⟩ := hjl
          have hjM : j < min len 64 := by omega
          obtain ⟨b, o, hA, hbB, hcell⟩ := HF.out.1.2 (by omega)
          have hzl := HF.out.length
          obtain ⟨z, hz⟩ : ∃ z, zs[j]? = some z := ⟨_, List.getElem?_eq_getElem (by omega)⟩
          have hzc := hcell j (.int .i64 z) (by rw [List.getElem?_map, hz]; rfl)
          subst hA
          have e0 := t0.old hbB hzc
          clear hcell hzl hz
          have hnz : (0 : Int) < (n : Int) := by omega
          have hwn : IntKind.u64.wrap (n : Int) = (n : Int) := by rw [IntKind.wrap_u64]; omega
          have hn0 : ((n : Int) == 0) = false := by simp; omega
          have hji : (j : Int) < (len : Int) := by omega
          have hji0 : (0 : Int) ≤ (j : Int) := by omega
          go_wp2_with fail
          go_quiet (fail)
          obtain ⟨ra, hra, era⟩ : ∃ ra : Nat, ra < n ∧ ((j : Int) % (n : Int)) = (ra : Int) := ⟨j % n, Nat.mod_lt _ hj3, by omega⟩
          obtain ⟨rb, hrb, erb⟩ := Counts.umod z n hnz (by omega)
          rw [era, erb]
          clear era erb hwn hn0 e0
          have hrb' : rb < n := by omega
          obtain ⟨g7, hA7, hg7, hcap⟩ := row_some (t0.row []) hj3
          subst hA7
          have hbl := hJ.len
          obtain ⟨x, hx⟩ : ∃ x, bl[ra]? = some x := ⟨_, List.getElem?_eq_getElem (by omega)⟩
          obtain ⟨y, hy⟩ : ∃ y, bl[rb]? = some y := ⟨_, List.getElem?_eq_getElem (by omega)⟩
          obtain ⟨p0, p1, p2, p3⟩ := own_cells (t0.row []) hx
          obtain ⟨q0, q1, q2, q3⟩ := own_cells (t0.row []) hy
          have Hx := Lib.hid hx
          have Hy := Lib.hid hy
          have HJ := Lib.hid hJ
          clear hbl hx hy hJ
          have i1 : (ra : Int) < (n : Int) := by omega
          have i2 : (rb : Int) < (n : Int) := by omega
          have i3 : (0 : Int) ≤ (ra : Int) := by omega
          have i4 : (0 : Int) ≤ (rb : Int) := by omega
          have hset : ∀ d : Nat, Mst W (((wr.drewN d).setCell ⟨g7, ra * 2, none⟩ (.int .i64 y.1)).setCell ⟨g7, ra * 2 + 1, none⟩ (.int .i64 y.2)) [] [⟨24, 2, .slice (some ⟨g7, 0, none⟩) n c7, n, ((prs bl).set (ra * 2) (.int .i64 y.1)).set (ra * 2 + 1) (.int .i64 y.2)⟩] :=
            fun d => ((t0.drewN d).rset [] _ _).rset [] _ _
          obtain ⟨v0, hv0⟩ : ∃ v0, (((prs bl).set (ra * 2) (.int .i64 y.1)).set (ra * 2 + 1) (.int .i64 y.2))[rb * 2]? = some v0 := ⟨_, List.getElem?_eq_getElem (by simp [prs_length, HJ.out.len]; omega)⟩
          obtain ⟨v1, hv1⟩ : ∃ v1, (((prs bl).set (ra * 2) (.int .i64 y.1)).set (ra * 2 + 1) (.int .i64 y.2))[rb * 2 + 1]? = some v1 := ⟨_, List.getElem?_eq_getElem (by simp [prs_length, HJ.out.len]; omega)⟩
          have hc0 : ∀ d : Nat, (((wr.drewN d).setCell ⟨g7, ra * 2, none⟩ (.int .i64 y.1)).setCell ⟨g7, ra * 2 + 1, none⟩ (.int .i64 y.2)).cell? ⟨g7, rb * 2, none⟩ = some v0 := fun d => row_cell ((hset d).row []) hv0
          have hc1 : ∀ d : Nat, (((wr.drewN d).setCell ⟨g7, ra * 2, none⟩ (.int .i64 y.1)).setCell ⟨g7, ra * 2 + 1, none⟩ (.int .i64 y.2)).cell? ⟨g7, rb * 2 + 1, none⟩ = some v1 := fun d => row_cell ((hset d).row []) hv1
          have HS := Lib.hid hset
          clear hset hv0 hv1
          have HJ2 := Lib.hid (HJ.out.swap Hx.out Hy.out)
          have hjM2 := hjM
          go_wp2_with fail
          go_region
          have s9 := ((HS.out (nq + 1)).rset [] (rb * 2) (.int .i64 x.1)).rset [] (rb * 2 + 1) (.int .i64 x.2)
          have e9 : ((((prs bl).set (ra * 2) (.int .i64 y.1)).set (ra * 2 + 1) (.int .i64 y.2)).set (rb * 2) (.int .i64 x.1)).set (rb * 2 + 1) (.int .i64 x.2) = prs ((bl.set ra y).set rb x) := by rw [prs_set, prs_set]
          rw [e9] at s9
          clear hc0 hc1 t0 e9
          go_wp2_with fail
          go_roundg (min len 64 - (j + 1))
          case measure => exact meas hj hjM
          case rel => exact ⟨j + 1, meas2 hjM, by go_num, R2_mk HJ2.out s9⟩
        · have HJ := Lib.hid hJ
          clear hJ
          have u0 := t0.new 27 (wcs 0 0 0)
          have hcs : decide ((j : Int) < (len : Int)) = false ∨ (decide ((j : Int) < (len : Int)) = true ∧ decide ((j : Int) < 64) = false) ∨ (decide ((j : Int) < (len : Int)) = true ∧ decide ((j : Int) < 64) = true ∧ decide ((0 : Int) < (n : Int)) = false) := by
            simp only [decide_eq_false_iff_not, decide_eq_true_eq]
            omega
          rcases hcs with b1 | ⟨b1, b2⟩ | ⟨b1, b2, b3⟩
          all_goals
            have q1 := b1
            simp only [decide_eq_false_iff_not, decide_eq_true_eq] at q1
            try (have q2 := b2; simp only [decide_eq_false_iff_not, decide_eq_true_eq] at q2)
            try (have q3 := b3; simp only [decide_eq_false_iff_not] at q3)
            clear hjl
            go_wp2_with fail
            try clear b3 q3
            try clear b2 q2
            clear t0 b1 q1
            generalize wr.heap.size = gw at u0 ⊢
            go_loopg [13] n (fun gg s13 wy => ∃ i : Nat, i + gg = n ∧ s13 = .int .i64 i ∧ R3 W gw n A7 c7 bl i wy)
            case atStart => exact ⟨0, by omega, rfl, R3_mk WinIs.zero u0⟩
            case round =>
              obtain ⟨i, hi, rfl, hR3⟩ := hrel
              obtain ⟨B, C, S, hI, v0⟩ := hR3
              clear u0
              by_cases hin : i < n
              · obtain ⟨g7, hA7, hg7, hcap⟩ := row_some (v0.row []) (by omega)
                subst hA7
                have hbl := HJ.out.len
                obtain ⟨x, hx⟩ : ∃ x, bl[i]? = some x := ⟨_, List.getElem?_eq_getElem (by omega)⟩
                obtain ⟨p0, p1, _, _⟩ := own_cells (v0.row []) hx
                have hl0 := HJ.out.fresh hb1 hb2 hn2 hI hx
                have hl1 : (lookV B C S x.1 x.2 != 0) = false := by simp [hl0]
                have HI2 : Hid (WinIs (takeS B C S x.1 x.2).1 (takeS B C S x.1 x.2).2.1 (takeS B C S x.1 x.2).2.2 (bl.take (i + 1))) := by
                  have := hI.take hl0
                  rw [show bl.take (i + 1) = bl.take i ++ [(x.1, x.2)] by rw [List.take_add_one, hx]; rfl]
                  exact this
                have HI := Lib.hid hI
                have hlen2 : (bl.take (i + 1)).length = i + 1 := by rw [List.length_take]; omega
                have HL := Lib.hid hlen2
                have HC : Hid (cntW (takeS B C S x.1 x.2).1 (takeS B C S x.1 x.2).2.1 (takeS B C S x.1 x.2).2.2 (bl.take (i + 1)) = i + 1) := by
                  show _ = _
                  rw [HJ.out.all8 hb1 hb2 hn2 HI2.out (fun z hz => hz) (fun z hz => List.mem_of_mem_take hz), hlen2]
                clear hI hbl hx hl0 hlen2
                have hin' : (i : Int) < (n : Int) := by omega
                have hcap' : (i : Int) + 1 ≤ (c7 : Int) := by omega
                go_wp2_with fail
                refine (v0.callsOn [] (take_any _ B C S _ _ _ (v0.blk []) HI.out.ok)).mono ?_
                rintro e w4 ⟨rfl, v4⟩
                clear v0 p0 p1
                have hr4 := own_rd (v4.row [])
                have hP4 : Prs w4 w4.heap.size (some ⟨g7, 0, none⟩) (bl.take (i + 1)) := prs_take hr4
                have hcon := fun cp => taken_any gw _ _ _ (some ⟨g7, 0, none⟩) cp (bl.take (i + 1)) w4 (v4.blk []) HI2.out.ok hP4 (by rw [HL.out]; omega)
                rw [HL.out, HC.out] at hcon
                have HCON := Lib.hid hcon
                clear hcon hP4 hr4
                have hsame : (((i + 1 : Nat) : Int) != (i : Int) + 1) = false := by simp
                go_wp2_with fail
                refine (v4.calls (HCON.out _)).mono ?_
                rintro e w5 ⟨rfl, v5⟩
                clear v4
                go_wp2_with fail
                go_roundg (n - (i + 1))
                case measure => exact meas hi hin
                case rel => exact ⟨i + 1, meas2 hin, by go_num, R3_mk HI2.out v5⟩
              · have HI : Hid (WinIs B C S bl) := by
                  have e : i = n := by omega
                  have h2 := hI
                  rw [e, ← HJ.out.len, List.take_length] at h2
                  exact h2
                clear hI
                go_wp2_with fail
                go_loopg [14] n (fun gg s14 wz => ∃ q : Nat, q + gg = n ∧ s14 = .int .i64 q ∧ Mst W wz [(gw, 27, wcs B C S)] [⟨24, 2, .slice A7 n c7, n, prs bl⟩])
                case atStart => exact ⟨0, by omega, rfl, v0⟩
                case round =>
                  obtain ⟨q, hq, rfl, z0⟩ := hrel
                  clear v0
                  by_cases hqn : q < n
                  · obtain ⟨g7, hA7, hg7, hcap⟩ := row_some (z0.row []) (by omega)
                    subst hA7
                    have hbl := HJ.out.len
                    obtain ⟨x, hx⟩ : ∃ x, bl[q]? = some x := ⟨_, List.getElem?_eq_getElem (by omega)⟩
                    obtain ⟨p0, p1, _, _⟩ := own_cells (z0.row []) hx
                    have hl0 := HJ.out.eight hb1 hb2 hn2 HI.out (fun z hz => hz) (List.mem_of_getElem? hx)
                    have hl1 : (lookV B C S x.1 x.2 != 8) = false := by simp [hl0]
                    have HT := Lib.hid (takeS_same (B := B) (C := C) (S := S) (b := x.1) (c := x.2) (by rw [hl0]; decide))
                    clear hbl hx hl0
                    have hqn' : (q : Int) < (n : Int) := by omega
                    go_wp2_with fail
                    refine (z0.callsOn [] (take_any _ B C S _ _ _ (z0.blk []) HI.out.ok)).mono ?_
                    rintro e w4 ⟨rfl, z4⟩
                    rw [HT.out] at z4
                    clear z0 p0 p1
                    go_wp2_with fail
                    go_roundg (n - (q + 1))
                    case measure => exact meas hq hqn
                    case rel => exact ⟨q + 1, meas2 hqn, by go_num, z4⟩
                  · go_wp2_with fail
                    refine (z0.calls (known12 _)).mono ?_
                    rintro e w4 ⟨rfl, z4⟩
                    go_wp2
                    go_ret
                    exact ⟨rfl, z4.bel⟩

theorem contract_windowShuffles (W : World) (v0 v1 v2 : Value) (a0 : ∃ a, v0 = .int .i64 a ∧ in64 a) (a1 : ∃ a, v1 = .int .i64 a ∧ in64 a) (a2 : ∃ A n c zs, v2 = .slice A n c ∧ n ≤ c ∧ c ≤ maxLen ∧ Flat 1 W A n zs) :
    Calls Try.prog 4 #[v0, v1, v2] W fun e W' => e = .returned (.bool true) ∧ Below W.heap.size W W' := by
  obtain ⟨x, rfl, _⟩ := a0
  obtain ⟨y, rfl, _⟩ := a1
  obtain ⟨A, n, c, zs, rfl, hn, hc, hf⟩ := a2
  exact windowShuffles_walk A c x y zs n W hf (by omega)
end Go.Proofs.Ytidphalfafaniaa
