/-
  vigillaw10.CookieNil returns true, whatever it is called with. Conditions: none but that the slice can be read.
-/
import Derived.Test.YtiakgohipnbdbaaCk7
namespace Go.Proofs.Ytiakgohipnbdbaa
set_option linter.unusedVariables false
set_option linter.unusedSimpArgs false
open Go.RowKit

set_option maxRecDepth 100000 in
set_option maxHeartbeats 1600000 in
theorem cookieNil_main (W : World) (A : Option Addr) (c : Nat) (l : List UInt8) (hr : RB W W.heap.size A l) (hc : l.length ≤ c ∧ c ≤ 9223372036854775807) (a t : Int) (ht : -9223372036854775808 ≤ t ∧ t ≤ 9223372036854775807) :
    Calls Try.prog 7 #[.slice A l.length c, .int .i64 a, .int .i64 t] W fun e W' => e = .returned (.bool true) ∧ Below W.heap.size W W' := by
  obtain ⟨N, hN⟩ : ∃ N, l.length = N := ⟨_, rfl⟩
  rw [hN] at hc ⊢
  obtain ⟨hc1, hc2⟩ := hc
  obtain ⟨t1, t2⟩ := ht
  have hr2 := hr.cut 20
  obtain ⟨n, hn, n2, n1⟩ := cut_n N 20
  obtain ⟨l', hl'⟩ : ∃ l', l.take 20 = l' := ⟨_, rfl⟩
  have hln : l'.length = n := by rw [← hl', List.length_take]; omega
  rw [hl'] at hr2
  have hmin1 : min (N : Int) 20 = n := hn.symm
  have n4 : (0 : Int) ≤ n := by omega
  have n5 : (n : Int) ≤ c := by omega
  have R1 := Lib.hid (show Rd W W.heap.size 1 A n (by8 l') from by rw [← hln]; exact hr2)
  have HLN := Lib.hid hln
  have HBN := Lib.hid (fun w => bake_nil w a t (.slice none 0 0))
  have HCN := Lib.hid (fun w => counts_nil w)
  have HKN := Lib.hid (fun w v => ckcheck2_nil w v (.slice none 0 0) a t)
  have HEP := Lib.hid (fun w => epoch_any t t1 t2 w)
  have HNW : Hid (∀ w', Below W.heap.size W w' → Calls Try.prog 38 #[.slice A n c] w' fun e w2 => ∃ p E, e = .returned (.tuple #[.pointer p, .int .i64 E]) ∧ ((16 ≤ (n : Int) ∧ E = 0 ∧ ∃ g, p = some g) ∨ ((n : Int) < 16 ∧ E = 1 ∧ p = none)) ∧ Below w'.heap.size w' w2) := by
    intro w' hb
    by_cases h16 : 16 ≤ n
    · have := cknew_M w' w' _ _ (Mst.start w') A c l' ((hr2.below hb).more hb.size) (by omega) (by omega)
      rw [hln] at this
      refine this.mono ?_
      rintro e w2 ⟨gb, gk, A', c', rfl, m⟩
      exact ⟨_, _, rfl, .inl ⟨by omega, rfl, _, rfl⟩, m.bel⟩
    · refine (cknew_no w' A n c (by omega)).mono ?_
      rintro e w2 ⟨rfl, rfl⟩
      exact ⟨_, _, rfl, .inr ⟨by omega, rfl, rfl⟩, Below.refl _ _⟩
  clear hr hr2 hln hl' hN hn
  go_enter Try.func7, Try.ntmps7
  go_wp2_with fail
  refine (HNW.out W (Below.refl _ _)).mono ?_
  rintro e w1 ⟨p, E, rfl, hcase, hb⟩
  have M1 := Lib.hid ((Mst.start W).below hb)
  have HCS := Lib.hid hcase
  clear hb HNW hcase
  go_wp2_with fail
  refine (HBN.out _).mono ?_
  rintro e w2 ⟨rfl, hb⟩
  have M2 := Lib.hid ((M1.out.below hb).new 51 Y16)
  clear hb
  go_wp2_with fail
  refine (HCN.out _).mono ?_
  rintro e w3 ⟨rfl, hw3⟩
  have M3 := Lib.hid (M2.out.toW hw3.symm rfl)
  clear hw3
  go_wp2_with fail
  refine (known10 _).mono ?_
  rintro e w4 ⟨rfl, hb⟩
  have M4 := Lib.hid (M3.out.below hb)
  clear hb
  rcases HCS.out with ⟨h16, rfl, g, rfl⟩ | ⟨h16, rfl, rfl⟩
  · by_cases ht : 0 ≤ t
    · go_wp2_with fail
      refine (HKN.out _ _).mono ?_
      rintro e w5 ⟨rfl, rfl⟩
      go_wp2
      go_ret
      exact ⟨by show Ending.returned (.bool (!decide ((n : Int) < 16))) = _; rw [decide_eq_false (by omega)]; rfl, M4.out.bel⟩
    · go_wp2_with fail
      refine (HKN.out _ _).mono ?_
      rintro e w5 ⟨rfl, rfl⟩
      go_wp2_with fail
      refine (HEP.out _).mono ?_
      rintro e w5 ⟨rfl, rfl⟩
      have h0 : max t 0 / 64 = 0 := by rw [show max t 0 = 0 by omega]; rfl
      rw [h0]
      go_wp2
      go_ret
      exact ⟨by show Ending.returned (.bool (!decide ((n : Int) < 16))) = _; rw [decide_eq_false (by omega)]; rfl, M4.out.bel⟩
  · have h16' : ¬ 16 ≤ (n : Int) := by omega
    by_cases ht : 0 ≤ t
    · go_wp2_with fail
      refine (HKN.out _ _).mono ?_
      rintro e w5 ⟨rfl, rfl⟩
      go_wp2
      go_ret
      exact ⟨by show Ending.returned (.bool (!decide (16 ≤ (n : Int)))) = _; rw [decide_eq_false (by omega)]; rfl, M4.out.bel⟩
    · go_wp2_with fail
      refine (HKN.out _ _).mono ?_
      rintro e w5 ⟨rfl, rfl⟩
      go_wp2_with fail
      refine (HEP.out _).mono ?_
      rintro e w5 ⟨rfl, rfl⟩
      have h0 : max t 0 / 64 = 0 := by rw [show max t 0 = 0 by omega]; rfl
      rw [h0]
      go_wp2
      go_ret
      exact ⟨by show Ending.returned (.bool (!decide (16 ≤ (n : Int)))) = _; rw [decide_eq_false (by omega)]; rfl, M4.out.bel⟩
theorem contract_cookieNil (W : World) (v0 v1 v2 : Value) (a0 : ∃ r : Rw, v0 = r.v ∧ r.ok .u8 W) (a1 : ∃ z, v1 = .int .i64 z ∧ in64 z) (a2 : ∃ z, v2 = .int .i64 z ∧ in64 z) :
    Calls Try.prog 7 #[v0, v1, v2] W fun e W' => e = .returned (.bool true) ∧ Below W.heap.size W W' := by
  obtain ⟨r, rfl, hr⟩ := a0
  obtain ⟨x, rfl, hx⟩ := a1
  obtain ⟨y, rfl, hy⟩ := a2
  obtain ⟨l, e, g1, g2, g3⟩ := rw_pt hr
  rw [e]
  unfold in64 at hy
  exact cookieNil_main W r.A r.c l g1 ⟨g2, g3⟩ x y (by omega)
end Go.Proofs.Ytiakgohipnbdbaa
