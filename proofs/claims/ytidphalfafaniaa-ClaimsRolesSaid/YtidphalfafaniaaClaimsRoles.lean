/-
  vigillaw05.ClaimsRoles returns true, whatever it is called with. Conditions: none but that the arguments are ints and a slice of ints that can be read.
-/
import Derived.Test.YtidphalfafaniaaCl4
import Derived.Test.YtidphalfafaniaaClaimsCovers
import Derived.Deep.DeepCutAuto
namespace Go.Proofs.Ytidphalfafaniaa
set_option linter.unusedVariables false
open Go.RowKit

theorem slice_n {A : Option Addr} {n m c : Nat} (h : n = m) : Value.slice A n c = .slice A m c := by rw [h]
theorem Rd.take1 {w : World} {B : Nat} {A : Option Addr} {n N : Nat} {xs : List Value} (h : Rd w B 1 A n xs) (hN : N ≤ n) : Rd w B 1 A N (xs.take N) := by
  have h1 := h.1
  refine ⟨by simp only [List.length_take]; omega, fun hn => ?_⟩
  obtain ⟨b, o, e, hb, hc⟩ := h.2 (by omega)
  refine ⟨b, o, e, hb, fun j u hu => hc j u ?_⟩
  rw [List.getElem?_take] at hu
  split at hu
  · exact hu
  · cases hu
theorem mask_bad (l : List Int) (n : Nat) (hn : l.length = n) (h : rolesOk l = false) (A : Option Addr) (c : Nat) (w : World) (hl : Rd w w.heap.size 1 A n (l.map (.int .i64))) (hm : n ≤ maxLen) :
    Calls Try.prog 53 #[.slice A n c] w fun e w' => e = .returned (.tuple #[.int .i64 0, .int .i64 10]) ∧ w = w' := by
  subst hn
  refine (mask_any l A c w hl hm).mono fun e w' ⟨h1, h2⟩ => ⟨?_, h2⟩
  rw [h1, if_neg (by simp [h])]
theorem has_n (m : Nat) (l : List Int) (n : Nat) (hn : l.length = n) (v : Bool) (hv : hasB m l = v) (i x s : Int) (A : Option Addr) (c : Nat) (w : World) (hm : m < 256) (hl : Rd w w.heap.size 1 A n (l.map (.int .i64))) (hn' : n ≤ maxLen) :
    Calls Try.prog 58 #[.agg #[.int .i64 i, .int .i64 m, .int .i64 x, .int .i64 s], .slice A n c] w fun e w' => e = .returned (.bool v) ∧ Below w.heap.size w w' := by
  subst hn hv
  exact has_any m l i x s A c w hm hl hn'
theorem refcovers_is (a b : Nat) (v : Bool) (h : covB a b = v) (ha : a < 256) (hb : b < 256) (w : World) : Calls Try.prog 56 #[.int .i64 a, .int .i64 b] w fun e w' => e = .returned (.bool v) ∧ w = w' := by
  subst h
  exact refcovers_any a b ha hb w

theorem mask_me (l : List Int) (n : Nat) (hn : l.length = n) (A : Option Addr) (c : Nat) (w : World) (hl : Rd w w.heap.size 1 A n (l.map (.int .i64))) (hm : n ≤ maxLen) :
    Calls Try.prog 53 #[.slice A n c] w fun e w' => e = .returned (.tuple #[.int .i64 (if rolesOk l then (maskN l : Int) else 0), .int .i64 (if rolesOk l then 0 else 10)]) ∧ w = w' := by
  subst hn
  refine (mask_any l A c w hl hm).mono fun e w' ⟨h1, h2⟩ => ⟨?_, h2⟩
  rw [h1]
  cases rolesOk l <;> rfl

theorem bool_eq {a b : Bool} (h : a = b) : Value.bool a = .bool b := by rw [h]
def RlRel1 (W : World) (x : Nat) (l : List Int) (k : Nat) (s11 s12 : Value) (wr : World) : Prop := s11 = .bool (rolesOk (l.take k)) ∧ s12 = .bool (hasL x (l.take k)) ∧ W = wr

set_option maxRecDepth 100000 in
set_option maxHeartbeats 16000000 in
theorem claimsRoles_main (W : World) (z0 z1 : Int) (A : Option Addr) (n c : Nat) (zs : List Int) (hl : Rd W W.heap.size 1 A n (zs.map (.int .i64))) (hzs : zs.length = n) (hnc : n ≤ c) (hcm : c ≤ 9223372036854775807) :
    Calls Try.prog 14 #[.int .i64 z0, .int .i64 z1, .slice A n c] W fun e W' => e = .returned (.bool true) ∧ Below W.heap.size W W' := by
  obtain ⟨x, hx, hx'⟩ := mod_nat z0 256 (by omega) (by omega)
  obtain ⟨y, hy, hy'⟩ := mod_nat z1 256 (by omega) (by omega)
  obtain ⟨N, hN, hN1, hN2⟩ : ∃ N : Nat, (N = n ∨ N = 10) ∧ N ≤ n ∧ N ≤ 10 := ⟨min n 10, by omega, by omega, by omega⟩
  have hN3 : N ≤ c := by omega
  obtain ⟨l, hl0⟩ : ∃ l, zs.take N = l := ⟨_, rfl⟩
  have hl2 : l.length = N := by rw [← hl0]; simp; omega
  have hl3 : Rd W W.heap.size 1 A N (l.map (.int .i64)) := by
    have := hl.take1 hN1
    rw [← List.map_take, hl0] at this
    exact this
  have HL := Lib.hid hl3
  have HZ := Lib.hid hl2
  clear hl hl0 hl3 hzs hl2
  have HN := Lib.hid hN
  clear hN
  go_enter Try.func14, Try.ntmps14
  go_upto_region 2 with fail
  rw [hx, hy]
  clear hx hy
  go_cut [2] (fun s2 w => s2 = .slice A N c ∧ W = w)
  case first =>
    go_wp2_with fail
    all_goals
      go_meet
      exact ⟨slice_n (by have := HN.out; omega), rfl⟩
  case rest =>
    obtain ⟨rfl, rfl⟩ := hcut
    obtain ⟨M, hM⟩ : ∃ M : Int, (if rolesOk l then (maskN l : Int) else 0) = M := ⟨_, rfl⟩
    obtain ⟨E, hE⟩ : ∃ E : Int, (if rolesOk l then (0 : Int) else 10) = E := ⟨_, rfl⟩
    have hq := mask_me l N HZ.out A c W HL.out (by unfold maxLen; omega)
    rw [hM, hE] at hq
    have HM := Lib.hid (And.intro hM hE)
    have HQ := Lib.hid hq
    clear hM hE hq
    go_wp2_with fail
    refine HQ.out.mono ?_
    rintro e w' ⟨rfl, rfl⟩
    go_wp2_with fail
    go_loopg [11, 12, 13] N (fun gg s11 s12 s13 wr => ∃ k : Nat, k + gg = N ∧ s13 = .int .i64 k ∧ RlRel1 W x l k s11 s12 wr)
    case atStart => exact ⟨0, by omega, rfl, rfl, rfl, rfl⟩
    case round =>
      obtain ⟨k, hk, rfl, rfl, rfl, rfl⟩ := hrel
      by_cases hlt : k < N
      · have hz := HZ.out
        obtain ⟨r, hr⟩ : ∃ r, l[k]? = some r := ⟨_, List.getElem?_eq_getElem (by omega)⟩
        obtain ⟨b, o, rfl, hb, hc⟩ := HL.out.2 (by omega)
        have d0 := hc k (.int .i64 r) (by simp [hr])
        have ht : l.take (k + 1) = l.take k ++ [r] := by rw [List.take_add_one, hr]; rfl
        have HO := Lib.hid (show rolesOk (l.take (k + 1)) = (rolesOk (l.take k) && decide (0 ≤ r ∧ r < 8)) by rw [ht, rolesOk_snoc])
        have HH := Lib.hid (show hasL x (l.take (k + 1)) = (hasL x (l.take k) && (decide (0 ≤ r ∧ r < 8) && x.testBit r.toNat)) by rw [ht, hasL_snoc])
        have HI := Lib.hid (fun h : rolesOk (l.take k) = false => hasL_rolesOk (m := x) h)
        clear hc hr ht hz
        obtain ⟨R, hR⟩ : ∃ R, rolesOk (l.take k) = R := ⟨_, rfl⟩
        obtain ⟨H, hH⟩ : ∃ H, hasL x (l.take k) = H := ⟨_, rfl⟩
        rw [hR, hH]
        have HR := Lib.hid hR
        have HK := Lib.hid hH
        clear hR hH
        have i1 : (k : Int) < (N : Int) := by omega
        have i2 : (0 : Int) ≤ (k : Int) := by omega
        have key : (R = false ∧ H = false) ∨ (R = true ∧ H = false) ∨ (R = true ∧ H = true) := by
          cases R with
          | false => exact .inl ⟨rfl, by rw [← HK.out]; exact HI.out HR.out⟩
          | true => cases H <;> simp
        have keyr : (¬ 0 ≤ r) ∨ (0 ≤ r ∧ ¬ r < 8) ∨ (∃ q : Nat, r = (q : Int) ∧ q < 8 ∧ x.testBit q = false) ∨ (∃ q : Nat, r = (q : Int) ∧ q < 8 ∧ x.testBit q = true) := by
          rcases (show r < 0 ∨ 0 ≤ r by omega) with h | h
          · exact .inl (by omega)
          · rcases (show r < 8 ∨ 8 ≤ r by omega) with h8 | h8
            · right; right
              obtain ⟨q, rfl⟩ : ∃ q : Nat, r = (q : Int) := ⟨r.toNat, by omega⟩
              cases hb : x.testBit q with
              | false => exact .inl ⟨q, rfl, by omega, hb⟩
              | true => exact .inr ⟨q, rfl, by omega, hb⟩
            · exact .inr (.inl ⟨h, by omega⟩)
        rcases key with ⟨rfl, rfl⟩ | ⟨rfl, rfl⟩ | ⟨rfl, rfl⟩
        all_goals
          rcases keyr with k1 | ⟨k1, k2⟩ | ⟨q, rfl, k1, k2⟩ | ⟨q, rfl, k1, k2⟩
        all_goals
          have HX := Lib.hid HO.out
          have HY := Lib.hid HH.out
          clear HO HH HI
          try have KB := Lib.hid k2
          go_wp2_with ((with_reducible refine (bit_is x q _ KB.out (by omega) (by omega) _).mono ?_); rintro e w' ⟨rfl, rfl⟩)
          go_roundg (N - (k + 1))
          case measure => exact meas hk hlt
          case rel =>
            refine ⟨k + 1, meas2 hlt, by go_num, bool_eq ?_, bool_eq ?_, rfl⟩
            · rw [HX.out, HR.out]
              first | rfl | (simp [k1]; done) | (simp [k1, k2]; done) | (simp; omega)
            · rw [HY.out, HK.out]
              first | rfl | (simp [k1]; done) | (simp [k1, k2]; done) | (simp; intros; omega) | (simp [KB.out]; done) | (simp [KB.out]; omega)
      · obtain rfl : k = N := by omega
        have ht : l.take k = l := by have := HZ.out; exact List.take_of_length_le (by omega)
        have hh := hasL_eq x l
        rw [ht, hh]
        clear hh ht hk hlt
        obtain ⟨HB, hHB⟩ : ∃ v, hasB x l = v := ⟨_, rfl⟩
        obtain ⟨CV, hCV⟩ : ∃ v, covB x y = v := ⟨_, rfl⟩
        obtain ⟨RO, hRO⟩ : ∃ v, rolesOk l = v := ⟨_, rfl⟩
        have hM := HM.out
        rw [hRO] at hM
        rw [hHB, hRO]
        have HM2 := Lib.hid hM
        have HRO := Lib.hid hRO
        clear hM HM hRO
        have H1 := Lib.hid hHB
        have H2 := Lib.hid hCV
        clear hHB hCV
        go_upto_region 11 with fail
        skip
        go_cut [108] (fun s108 w => s108 = .bool false ∧ Below W.heap.size W w)
        case first =>
          cases RO with
          | true =>
            have hm := HM2.out
            simp at hm
            obtain ⟨rfl, rfl⟩ := hm
            go_wp2_with (first
              | ((with_reducible refine (covers_is x y CV H2.out (by omega) (by omega) _).mono ?_); rintro e w' ⟨rfl, rfl⟩)
              | ((with_reducible refine (refcovers_is x y CV H2.out (by omega) (by omega) _).mono ?_); rintro e w' ⟨rfl, rfl⟩)
              | ((with_reducible refine (to05 _ _ _ _ _).mono ?_); rintro e w1 ⟨rfl, hb1⟩; have HB1 := Lib.hid hb1; have HL1 := Lib.hid ((HL.out.below hb1).more hb1.size); clear hb1)
              | ((with_reducible refine (has_n x l k HZ.out HB H1.out _ _ _ A c _ (by omega) HL1.out (by unfold maxLen; omega)).mono ?_); rintro e w2 ⟨rfl, hb2⟩; have HB2 := Lib.hid (HB1.out.trans (hb2.mono HB1.out.size)); clear hb2))
            go_meet
            exact ⟨bool_eq (by simp), HB2.out⟩
          | false =>
            have hm := HM2.out
            simp at hm
            obtain ⟨rfl, rfl⟩ := hm
            go_wp2_with (first
              | ((with_reducible refine (covers_is x y CV H2.out (by omega) (by omega) _).mono ?_); rintro e w' ⟨rfl, rfl⟩)
              | ((with_reducible refine (refcovers_is x y CV H2.out (by omega) (by omega) _).mono ?_); rintro e w' ⟨rfl, rfl⟩)
              | ((with_reducible refine (to05 _ _ _ _ _).mono ?_); rintro e w1 ⟨rfl, hb1⟩; have HB1 := Lib.hid hb1; have HL1 := Lib.hid ((HL.out.below hb1).more hb1.size); clear hb1)
              | ((with_reducible refine (has_n x l k HZ.out HB H1.out _ _ _ A c _ (by omega) HL1.out (by unfold maxLen; omega)).mono ?_); rintro e w2 ⟨rfl, hb2⟩; have HB2 := Lib.hid (HB1.out.trans (hb2.mono HB1.out.size)); clear hb2))
            go_meet
            exact ⟨bool_eq (by simp), HB2.out⟩
        case rest =>
          obtain ⟨rfl, hb0⟩ := hcut
          have HB0 := Lib.hid hb0
          clear hb0 H1 H2 HQ
          go_wp2_with fail
          refine (roles_any x _ (by omega)).mono ?_
          rintro e w2 ⟨v2, rfl, f2⟩
          obtain ⟨A2, c2, rfl, hr2, _⟩ := own_form f2.own
          have F2 := Lib.hid (HB0.out.trans (f2.bel.mono HB0.out.size))
          have HR2 := Lib.hid hr2
          have HL2 := Lib.hid ((HL.out.below F2.out).more F2.out.size)
          have l8 := rolesN_len x
          clear f2 hr2
          go_wp2_with fail
          go_loopg [16, 17] 8 (fun gg s16 s17 wr => ∃ r : Nat, r + gg = 8 ∧ s17 = .int .i64 r ∧ s16 = .int .i64 (rolesK x r).length ∧ w2 = wr)
          case atStart => exact ⟨0, by omega, rfl, rfl, rfl⟩
          case round =>
            obtain ⟨r, hk, rfl, rfl, rfl⟩ := hrel
            by_cases hlt : r < 8
            · have lk := rolesK_len x r
              cases hb : x.testBit r with
              | false =>
                have HX := Lib.hid (show rolesK x (r + 1) = rolesK x r by rw [rolesK_succ, hb]; rfl)
                have KB := Lib.hid hb
                clear hb
                go_wp2_with ((with_reducible refine (bit_is x r _ KB.out (by omega) (by omega) _).mono ?_); rintro e w' ⟨rfl, rfl⟩)
                go_roundg (8 - (r + 1))
                case measure => exact meas hk hlt
                case rel => exact ⟨r + 1, meas2 hlt, by go_num, by rw [HX.out], rfl⟩
              | true =>
                have HX := Lib.hid (show (rolesK x (r + 1)).length = (rolesK x r).length + 1 by rw [rolesK_succ, hb]; simp)
                have hg := rolesN_get hb hlt
                have hgl := (List.getElem?_eq_some_iff.1 hg).1
                obtain ⟨b2, o2, hA2, _, hc2⟩ := HR2.out.2 (by omega)
                have d2 := hc2 (rolesK x r).length (.int .i64 r) (by simp [hg])
                have KB := Lib.hid hb
                clear hb hc2 hg
                subst hA2
                have i1 : ((rolesK x r).length : Int) < ((rolesN x).length : Int) := by omega
                have i2 : (0 : Int) ≤ ((rolesK x r).length : Int) := by omega
                go_wp2_with ((with_reducible refine (bit_is x r _ KB.out (by omega) (by omega) _).mono ?_); rintro e w' ⟨rfl, rfl⟩)
                go_roundg (8 - (r + 1))
                case measure => exact meas hk hlt
                case rel => exact ⟨r + 1, meas2 hlt, by go_num, by rw [HX.out]; go_num, rfl⟩
            · obtain rfl : r = 8 := by omega
              rw [show (rolesK x 8).length = (rolesN x).length from rfl]
              clear hlt hk
              go_wp2_with fail
              have hq := mask_ok (rolesN x) _ rfl (by rw [rolesOk_iff]; intro q hq; obtain ⟨q', h1, _, rfl⟩ := (rolesN_mem _ q).1 hq; omega) A2 c2 w2 HR2.out (by unfold maxLen; omega)
              rw [mask_roles x (by omega)] at hq
              refine hq.mono ?_
              rintro e w' ⟨rfl, rfl⟩
              clear hq
              go_wp2_with fail
              go_loopg [20] 8 (fun gg s20 wr => ∃ r : Nat, r + gg = 8 ∧ s20 = .int .i64 r ∧ w2 = wr)
              case atStart => exact ⟨0, by omega, rfl, rfl⟩
              case round =>
                obtain ⟨r, hk, rfl, rfl⟩ := hrel
                by_cases hgo : RO = true ∧ r < 8
                · obtain ⟨rfl, hlt⟩ := hgo
                  have hm := HM2.out
                  simp at hm
                  obtain ⟨rfl, rfl⟩ := hm
                  go_wp2_with fail
                  go_loopg [21, 22] k (fun gg s21 s22 wr => ∃ j : Nat, j + gg = k ∧ s22 = .int .i64 j ∧ s21 = .bool (decide ((r : Int) ∈ l.take j)) ∧ w2 = wr)
                  case atStart => exact ⟨0, by omega, rfl, rfl, rfl⟩
                  case round =>
                    obtain ⟨j, hj, rfl, rfl, rfl⟩ := hrel
                    by_cases hjt : j < k
                    · have hz := HZ.out
                      obtain ⟨q, hr⟩ : ∃ q, l[j]? = some q := ⟨_, List.getElem?_eq_getElem (by omega)⟩
                      obtain ⟨b, o, rfl, hb, hc⟩ := HL2.out.2 (by omega)
                      have d0 := hc j (.int .i64 q) (by simp [hr])
                      have ht : l.take (j + 1) = l.take j ++ [q] := by rw [List.take_add_one, hr]; rfl
                      have HX := Lib.hid (show decide ((r : Int) ∈ l.take (j + 1)) = (decide ((r : Int) ∈ l.take j) || (q == (r : Int))) by
                        rw [ht, Bool.eq_iff_iff]
                        simp only [decide_eq_true_eq, List.mem_append, List.mem_singleton, Bool.or_eq_true, beq_iff_eq]
                        constructor
                        · rintro (h | h)
                          · exact .inl h
                          · exact .inr h.symm
                        · rintro (h | h)
                          · exact .inl h
                          · exact .inr h.symm)
                      clear hc hr ht hz
                      have i1 : (j : Int) < (k : Int) := by omega
                      have i2 : (0 : Int) ≤ (j : Int) := by omega
                      obtain ⟨I, hI⟩ : ∃ v, decide ((r : Int) ∈ l.take j) = v := ⟨_, rfl⟩
                      rw [hI]
                      have HI := Lib.hid hI
                      clear hI
                      cases I with
                      | true =>
                        go_wp2_with fail
                        go_roundg (k - (j + 1))
                        case measure => exact meas hj hjt
                        case rel => exact ⟨j + 1, meas2 hjt, by go_num, bool_eq (by rw [HX.out, HI.out]; rfl), rfl⟩
                      | false =>
                        go_wp2_with fail
                        all_goals
                          go_roundg (k - (j + 1))
                          case measure => exact meas hj hjt
                          case rel => exact ⟨j + 1, meas2 hjt, by go_num, bool_eq (by rw [HX.out, HI.out]; rfl), rfl⟩
                    · obtain rfl : j = k := by omega
                      have ht : l.take j = l := by have := HZ.out; exact List.take_of_length_le (by omega)
                      rw [ht]
                      obtain ⟨I, hI⟩ : ∃ v, decide ((r : Int) ∈ l) = v := ⟨_, rfl⟩
                      have hro := (rolesOk_iff l).1 HRO.out
                      have hbit : (maskN l).testBit r = I := by
                        rw [← hI, Bool.eq_iff_iff, maskN_bit l (fun q hq => (hro q hq).1)]
                        simp
                      have hM256 := maskN_lt l hro
                      rw [hI]
                      have HBT := Lib.hid hbit
                      clear hbit hro hI ht
                      go_wp2_with ((with_reducible refine (bit_is (maskN l) r I HBT.out hM256 hlt _).mono ?_); rintro e w' ⟨rfl, rfl⟩)
                      go_roundg (8 - (r + 1))
                      case measure => exact meas hk hlt
                      case rel => exact ⟨r + 1, meas2 hlt, by go_num, rfl⟩
                · have hend : RO = false ∨ (RO = true ∧ ¬ r < 8) := by
                    cases RO with
                    | false => exact .inl rfl
                    | true => exact .inr ⟨rfl, fun h => hgo ⟨rfl, h⟩⟩
                  clear hgo
                  have keya : (¬ 0 ≤ z0) ∨ (0 ≤ z0 ∧ 256 ≤ z0) ∨ (0 ≤ z0 ∧ z0 < 256) := by omega
                  rcases hend with rfl | ⟨rfl, hge⟩
                  all_goals
                    rcases keya with k1 | ⟨k1, k2⟩ | ⟨k1, k2⟩
                  all_goals
                    go_wp2_with (first
                      | ((with_reducible refine (known05 _).mono ?_); rintro e w4 ⟨rfl, hb4⟩; have HB4 := Lib.hid (F2.out.trans (hb4.mono F2.out.size)); clear hb4)
                      | ((with_reducible refine (roles_none z0 (by omega) _).mono ?_); rintro e w' ⟨rfl, rfl⟩))
                    go_ret
                    exact ⟨rfl, HB4.out⟩

theorem contract_claimsRoles (W : World) (v0 v1 v2 : Value) (a0 : ∃ z, v0 = .int .i64 z ∧ in64 z) (a1 : ∃ z, v1 = .int .i64 z ∧ in64 z) (a2 : ∃ A n c zs, v2 = .slice A n c ∧ n ≤ c ∧ c ≤ maxLen ∧ Flat 1 W A n zs) :
    Calls Try.prog 14 #[v0, v1, v2] W fun e W' => e = .returned (.bool true) ∧ Below W.heap.size W W' := by
  obtain ⟨z0, rfl, _⟩ := a0
  obtain ⟨z1, rfl, _⟩ := a1
  obtain ⟨A, n, c, zs, rfl, hnc, hc, hf⟩ := a2
  exact claimsRoles_main W z0 z1 A n c zs hf.1 (by simpa using hf.length) hnc (by unfold maxLen at hc; omega)
end Go.Proofs.Ytidphalfafaniaa
