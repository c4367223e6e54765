/- slices.Grow of nil and slices.Concat of slices of bytes. -/
import Derived.Test.YthnaobolmgcclaaSame
import Derived.Test.YthnaobolmgcclaaApp2
import Derived.Test.YthnaobolmgcclaaWireN
import Derived.Lib.AppendZeros
import Derived.Outline
namespace Go.Proofs.Ythnaobolmgcclaa
set_option linter.unusedVariables false
open Go.RowKit

/-- A part: a slice of bytes that is read. -/
structure Pt where
  A : Option Addr
  c : Nat
  l : List UInt8
def Pt.v (p : Pt) : Value := .slice p.A p.l.length p.c
def Pts (w : World) (A : Option Addr) (ps : List Pt) : Prop := Rd w w.heap.size 1 A ps.length (ps.map Pt.v) ∧ ∀ p ∈ ps, RB w w.heap.size p.A p.l
def catP (ps : List Pt) : List UInt8 := (ps.map (·.l)).flatten
theorem catP_snoc (ps : List Pt) (p : Pt) : catP (ps ++ [p]) = catP ps ++ p.l := by simp [catP]
theorem catP_cons (ps : List Pt) (p : Pt) : catP (p :: ps) = p.l ++ catP ps := by simp [catP]
theorem catP_take {ps : List Pt} {k : Nat} {p : Pt} (h : ps[k]? = some p) : catP (ps.take (k + 1)) = catP (ps.take k) ++ p.l := by
  have hk : k < ps.length := (List.getElem?_eq_some_iff.1 h).1
  rw [List.take_succ_eq_append_getElem hk, catP_snoc]
  rw [List.getElem?_eq_getElem hk] at h
  injection h with h
  rw [h]
theorem catP_append (ps qs : List Pt) : catP (ps ++ qs) = catP ps ++ catP qs := by simp [catP]
theorem catP_le (ps : List Pt) (k : Nat) : (catP (ps.take k)).length ≤ (catP ps).length := by
  have h := catP_append (ps.take k) (ps.drop k)
  rw [List.take_append_drop] at h
  rw [h]
  simp
theorem Pts.below {w w' : World} {A : Option Addr} {ps : List Pt} (h : Pts w A ps) (hb : Below w.heap.size w w') : Pts w' A ps :=
  ⟨(h.1.below hb).more hb.size, fun p hp => ((h.2 p hp).below hb |>.more hb.size)⟩

set_option maxRecDepth 100000 in
theorem grow_nil (n : Nat) (w : World) (hn : n ≤ 100000000) : Calls Try.prog 97 #[.slice none 0 0, .int .i64 (n : Int)] w (RetFresh w 5 1 0 (by8 [])) := by
  obtain ⟨i0, hi, hz0, hz1, hz2⟩ := info_parts info_u8
  by_cases h0 : n = 0
  · subst h0
    go_enter Try.func97, Try.ntmps97
    go_wp2
    go_ret
    exact ⟨_, rfl, Below.refl _ _, World.ownsRow_nil _ _ _ _⟩
  · have h1 : 0 < n := by omega
    have hr := Lib.run_append_nil_zeros (P := Try.prog) w 26 3 26 5 i0 (.int .u8 0) .i64 .i64 Try.underlying26 Try.underlying3 hi hz0 n h1 (by omega) (by omega) (by rw [hz2]; omega)
    generalize hcap : grownCap w n 0 5 = cap2 at hr
    have hge : n ≤ cap2 := by rw [← hcap]; exact grownCap_ge w _ 0 _
    have hle : cap2 ≤ maxLen := by rw [← hcap]; exact grownCap_le_maxLen w _ 0 _ (by unfold maxLen; omega)
    generalize hZ : (Builtin.zeroCells (Value.int .u8 0).cells n ++ Builtin.zeroCells (Value.int .u8 0).cells (cap2 - n)) = Z at hr
    have hZs : Z.size = cap2 * 1 := by rw [← hZ]; simp [size_zeroCells, Value.cells]; omega
    have HW := Lib.hid ((Mst.start w).newrow 5 1 0 cap2 Z (Nat.zero_le _) hle hZs)
    have HR := Lib.hid hr
    have hle' : (n : Int) ≤ cap2 := by omega
    clear hi hz0 hz1 hz2 hr h0 hcap hle hZ hZs
    go_enter Try.func97, Try.ntmps97
    go_wp2_with (at_builtin; refine Lib.wpList_append_run _ rfl _ _ _ _ rfl _ _ rfl rfl _ _ HR.out ?_)
    go_ret
    exact ⟨_, rfl, HW.out.bel.drew, (HW.out.drew).row []⟩

theorem el_u8c : El Try.prog 26 5 1 1 := by
  obtain ⟨i0, hi, hz0, hz1, hz2⟩ := info_parts info_u8
  exact ⟨Try.underlying26, ⟨i0, _, hi, hz0, hz1, hz2, rfl⟩, by decide⟩
theorem Pts.at_ {w : World} {A : Option Addr} {ps : List Pt} (h : Pts w A ps) (hn : 0 < ps.length) : ∃ b o, A = some ⟨b, o, none⟩ ∧ b < w.heap.size ∧ ∀ k p, ps[k]? = some p → w.cell? ⟨b, o + k, none⟩ = some p.v := by
  obtain ⟨b, o, e, hb, hc⟩ := h.1.2 hn
  exact ⟨b, o, e, hb, fun k p hk => hc k p.v (by simp [hk])⟩
structure CaR (w wr : World) (ps : List Pt) (k : Nat) (v : Value) : Prop where
  m : Mst w wr [] [⟨5, 1, v, (catP (ps.take k)).length, by8 (catP (ps.take k))⟩]

set_option maxRecDepth 100000 in
set_option maxHeartbeats 1000000 in
theorem concat_any (w : World) (A : Option Addr) (c : Nat) (ps : List Pt) (hp : Pts w A ps) (hn : ps.length ≤ 1000) (hl : (catP ps).length ≤ 1000000) :
    Calls Try.prog 84 #[.slice A ps.length c] w (RetFresh w 5 1 (catP ps).length (by8 (catP ps))) := by
  obtain ⟨n, hN⟩ : ∃ n, ps.length = n := ⟨_, rfl⟩
  obtain ⟨L, hL⟩ : ∃ L, (catP ps).length = L := ⟨_, rfl⟩
  have HN := Lib.hid hN
  have HL := Lib.hid hL
  rw [hN] at hn ⊢
  rw [hL] at hl ⊢
  have HP := Lib.hid hp
  clear hp hN hL
  go_enter Try.func84, Try.ntmps84
  go_wp2_with fail
  go_loopg [11, 3] n (fun gk s11 s3 wr => ∃ k : Nat, k + gk = n ∧ s11 = .int .i64 k ∧ s3 = .int .i64 ((catP (ps.take k)).length : Nat) ∧ Mst w wr [] [])
  case atStart => exact ⟨0, by omega, rfl, rfl, Mst.start w⟩
  case round =>
    obtain ⟨k, hk, rfl, rfl, hm⟩ := hrel
    by_cases hlt : k < n
    · obtain ⟨p, hpk⟩ : ∃ p, ps[k]? = some p := ⟨_, List.getElem?_eq_getElem (by have := HN.out; omega)⟩
      obtain ⟨b, o, rfl, hb, hcell⟩ := HP.out.at_ (by have := HN.out; omega)
      have c0 := hm.old hb (hcell k p hpk)
      have e1 := catP_take hpk
      have e2 := catP_le ps (k + 1)
      have e3 : (catP (ps.take (k + 1))).length = (catP (ps.take k)).length + p.l.length := by rw [e1, List.length_append]
      obtain ⟨S, hS⟩ : ∃ S, (catP (ps.take k)).length = S := ⟨_, rfl⟩
      obtain ⟨p, cp, lp⟩ := p
      unfold Pt.v at c0
      simp only at c0 e3
      obtain ⟨N, hN⟩ : ∃ N, lp.length = N := ⟨_, rfl⟩
      rw [hN] at c0 e3
      rw [hS] at e3 ⊢
      have h0 : (0 : Int) ≤ S := by omega
      have h1 : (S : Int) + N ≤ 1000000 := by have := HL.out; omega
      have h2 : (0 : Int) ≤ N := by omega
      have E3 := Lib.hid e3
      have HM := Lib.hid hm
      clear e1 e2 e3 hm hcell hS hN
      go_wp2
      go_roundg (n - (k + 1))
      case measure => exact meas hk hlt
      case rel => exact ⟨k + 1, meas2 hlt, by go_num, by rw [E3.out]; go_num, HM.out⟩
    · obtain rfl : k = n := by omega
      have ht : ps.take k = ps := List.take_of_length_le (by have := HN.out; omega)
      rw [ht]
      have hLe := HL.out
      rw [hLe]
      have HM := Lib.hid hm
      clear hm hlt hk ht hLe
      go_wp2_with ((with_reducible refine (grow_nil _ _ (by omega)).mono ?_); rintro e w1 ⟨v1, rfl, hf1⟩; have HM1 := Lib.hid (HM.out.addr hf1); clear hf1)
      have HC := Lib.hid (show CaR w w1 ps 0 v1 from ⟨HM1.out⟩)
      go_loopg [27, 6] k (fun gk s27 s6 wr => ∃ j : Nat, j + gk = k ∧ s27 = .int .i64 j ∧ CaR w wr ps j s6)
      case atStart => exact ⟨0, by omega, rfl, HC.out⟩
      case round =>
        obtain ⟨j, hj, rfl, ⟨hm⟩⟩ := hrel
        by_cases hlt : j < k
        · obtain ⟨p, hpk⟩ : ∃ p, ps[j]? = some p := ⟨_, List.getElem?_eq_getElem (by have := HN.out; omega)⟩
          obtain ⟨b, o, rfl, hb, hcell⟩ := HP.out.at_ (by have := HN.out; omega)
          have c0 := hm.old hb (hcell j p hpk)
          have e1 := catP_take hpk
          have e2 := catP_le ps (j + 1)
          have e3 : (catP (ps.take (j + 1))).length = (catP (ps.take j)).length + p.l.length := by rw [e1, List.length_append]
          have hr := hm.oldRd (HP.out.2 p (List.mem_of_getElem? hpk))
          obtain ⟨p, cp, lp⟩ := p
          unfold Pt.v at c0
          simp only at c0 e3 hr e1
          have E1 := Lib.hid (show by8 (catP (ps.take j)) ++ by8 lp = by8 (catP (ps.take (j + 1))) by rw [e1, by8_append])
          have E3 := Lib.hid e3
          have hb1 : (catP (ps.take j)).length + lp.length ≤ maxLen := by have := HL.out; unfold maxLen; omega
          have hb2 : ((catP (ps.take j)).length + lp.length) * 1 ≤ 140737488355328 := by have := HL.out; omega
          have B1 := Lib.hid hb1
          have B2 := Lib.hid hb2
          obtain ⟨A6, c6, rfl, _⟩ := own_form (hm.row [])
          have HM := Lib.hid hm
          have HR := Lib.hid hr
          clear e1 e2 e3 hm hcell hb1 hb2 hr
          go_wp2_with (at_builtin; refine wpList_appM rfl _ _ 26 rfl [] HM.out el_u8c rfl _ p _ cp (by8 lp) rfl HR.out (by8_one lp) B1.out B2.out ?_; intro A' c' w' hm')
          go_roundg (k - (j + 1))
          case measure => exact meas hj hlt
          case rel => exact ⟨j + 1, meas2 hlt, by go_num, ⟨by
            rw [E1.out, ← E3.out] at hm'
            rw [E3.out]
            rw [E3.out] at hm'
            exact hm'⟩⟩
        · obtain rfl : j = k := by omega
          have ht : ps.take j = ps := List.take_of_length_le (by have := HN.out; omega)
          rw [ht, HL.out] at hm
          have HM := Lib.hid hm
          clear hm hlt hj ht
          go_wp2
          go_ret
          exact ⟨_, rfl, HM.out.bel, HM.out.row []⟩
end Go.Proofs.Ythnaobolmgcclaa
