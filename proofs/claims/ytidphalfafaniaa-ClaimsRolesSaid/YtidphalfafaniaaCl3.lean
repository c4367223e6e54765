/- The chapter's example of claims; Covers, Mask, Roles. -/
import Derived.Test.YtidphalfafaniaaCl2
import Derived.Test.YtidphalfafaniaaApp2
import Derived.Test.YtidphalfafaniaaMask
namespace Go.Proofs.Ytidphalfafaniaa
set_option linter.unusedVariables false
open Go.RowKit

theorem kn05 : clB 258 3 5 7 = [1, 2, 3, 0, 0, 0, 5, 0, 7] := by decide
set_option maxRecDepth 100000 in
set_option maxHeartbeats 1600000 in
theorem known05 (w : World) : Calls Try.prog 54 #[] w fun e w' => e = .returned (.bool true) ∧ Below w.heap.size w w' := by
  go_enter Try.func54, Try.ntmps54
  go_wp2_with fail
  refine (clbytes_ok 258 3 5 7 w ⟨by omega, by omega, by omega, by omega⟩).mono ?_
  rintro e w1 ⟨v, rfl, hf⟩
  obtain ⟨A, c, rfl, hr, _⟩ := own_form hf.own
  rw [kn05] at hr
  have HB := Lib.hid hf.bel
  have hsz := hf.bel.size
  have HR := Lib.hid hr
  clear hf hr
  go_wp2_with fail
  refine ((same_yes A (some ⟨w1.heap.size, 0, none⟩) c 9 [1, 2, 3, 0, 0, 0, 5, 0, 7] _ ?_ ?_ (by simp [maxLen]))).mono ?_
  · exact (HR.out.below ((Below.refl w1.heap.size w1).alloc (Nat.le_refl _) _)).more (by simp)
  · exact Rd.new1 (size := 1) (n := 9) w1 _ _ rfl
  rintro e w2 ⟨rfl, hb2⟩
  have HB2 := Lib.hid ((HB.out.alloc hsz _).trans (hb2.mono (by simp; omega)))
  clear hb2
  go_wp2_with fail
  go_ret
  exact ⟨rfl, HB2.out⟩

theorem covers_any (a b : Nat) (ha : a < 256) (hb : b < 256) (w : World) : Calls Try.prog 51 #[.int .i64 a, .int .i64 b] w fun e w' => e = .returned (.bool (covB a b)) ∧ w = w' := by
  have h := andNot_i64 b a ha hb
  obtain ⟨c, hc⟩ : ∃ c, covB a b = c := ⟨_, rfl⟩
  rw [hc] at h ⊢
  have HC := Lib.hid h
  clear h hc ha hb
  go_enter Try.func51, Try.ntmps51
  go_wp2
  go_ret
  exact ⟨by rw [← HC.out]; rfl, rfl⟩

def MaskPost (W : World) (l : List Int) (e : Ending) (w' : World) : Prop := e = .returned (.tuple (if rolesOk l then #[.int .i64 (maskN l : Nat), .int .i64 0] else #[.int .i64 0, .int .i64 10])) ∧ W = w'
theorem rolesOk_take {l : List Int} {k : Nat} {r : Int} (h : l[k]? = some r) (hr : ¬ (0 ≤ r ∧ r < 8)) : rolesOk l = false := by
  rw [Bool.eq_false_iff]
  intro hh
  exact hr ((rolesOk_iff l).1 hh r (List.mem_of_getElem? h))

set_option maxRecDepth 100000 in
set_option maxHeartbeats 1600000 in
theorem mask_any (l : List Int) (A : Option Addr) (c : Nat) (w : World) (hl : Rd w w.heap.size 1 A l.length (l.map (.int .i64))) (hn : l.length ≤ maxLen) :
    Calls Try.prog 53 #[.slice A l.length c] w (MaskPost w l) := by
  unfold maxLen at hn
  have H1 := Lib.hid hl
  clear hl
  go_enter Try.func53, Try.ntmps53
  go_wp2_with fail
  go_loopg [4, 9] l.length (fun gg s4 s9 wr => ∃ k : Nat, k + gg = l.length ∧ s9 = .int .i64 k ∧ s4 = .int .i64 (maskN (l.take k) : Nat) ∧ rolesOk (l.take k) = true ∧ w = wr)
  case atStart => exact ⟨0, by omega, rfl, rfl, rfl, rfl⟩
  case round =>
    obtain ⟨k, hk, rfl, rfl, ho, rfl⟩ := hrel
    have HO := Lib.hid ho
    clear ho
    by_cases hlt : k < l.length
    · obtain ⟨r, hr⟩ : ∃ r, l[k]? = some r := ⟨_, List.getElem?_eq_getElem hlt⟩
      obtain ⟨b, o, rfl, hb, hc⟩ := H1.out.2 (by omega)
      have d0 := hc k (.int .i64 r) (by simp [hr])
      have HR := Lib.hid hr
      clear hc hr
      have i1 : (k : Int) < (l.length : Int) := by omega
      have i2 : (0 : Int) ≤ (k : Int) := by omega
      by_cases h0 : 0 ≤ r
      · by_cases h8 : r < 8
        · obtain ⟨q, rfl⟩ : ∃ q : Nat, r = (q : Int) := ⟨r.toNat, by omega⟩
          have hm := maskN_lt (l.take k) ((rolesOk_iff _).1 HO.out)
          have HQ := Lib.hid (or_i64 (maskN (l.take k)) q hm (by omega))
          have ht : l.take (k + 1) = l.take k ++ [(q : Int)] := by rw [List.take_add_one, HR.out]; rfl
          have HX := Lib.hid (show maskN (l.take (k + 1)) = maskN (l.take k) ||| 2 ^ q by rw [ht, maskN_snoc]; simp)
          have HY := Lib.hid (show rolesOk (l.take (k + 1)) = true by
            rw [rolesOk_iff, ht]
            intro x hx
            rcases List.mem_append.1 hx with hx | hx
            · exact (rolesOk_iff _).1 HO.out x hx
            · simp at hx; omega)
          clear ht
          go_wp2_with fail
          go_roundg (l.length - (k + 1))
          case measure => exact meas hk hlt
          case rel => exact ⟨k + 1, meas2 hlt, by go_num, by rw [HX.out, ← HQ.out], HY.out, rfl⟩
        · have HN := Lib.hid (rolesOk_take HR.out (by omega))
          go_wp2
          go_ret2
          exact ⟨by rw [HN.out]; rfl, rfl⟩
      · have HN := Lib.hid (rolesOk_take HR.out (by omega))
        go_wp2
        go_ret2
        exact ⟨by rw [HN.out]; rfl, rfl⟩
    · have ht : l.take k = l := List.take_of_length_le (by omega)
      have HT := Lib.hid ht
      clear ht
      go_wp2
      go_ret2
      have a := HO.out
      rw [HT.out] at a
      exact ⟨by rw [a, HT.out]; rfl, rfl⟩

theorem el_int : El Try.prog 37 3 1 8 := El.of Try.underlying37 (z := .int .i64 0) (by kernel_rfl) rfl (by decide)

set_option maxRecDepth 100000 in
set_option maxHeartbeats 1600000 in
theorem roles_any (m : Nat) (w : World) (hm : m < 256) :
    Calls Try.prog 52 #[.int .i64 m] w (RetFresh w 3 1 (rolesN m).length ((rolesN m).map (.int .i64))) := by
  have hm1 : (m : Int) ≤ 255 := by omega
  have hm0 : (0 : Int) ≤ (m : Int) := by omega
  go_enter Try.func52, Try.ntmps52
  go_wp2_with fail
  go_loopg [3, 11] 8 (fun gg s3 s11 wr => ∃ k : Nat, k + gg = 8 ∧ s11 = .int .i64 k ∧ Mst w wr [] [⟨3, 1, s3, (rolesK m k).length, (rolesK m k).map (.int .i64)⟩])
  case atStart => exact ⟨0, by omega, rfl, (Mst.start w).nilrow _ _⟩
  case round =>
    obtain ⟨k, hk, rfl, s0⟩ := hrel
    have S0 := Lib.hid s0
    clear s0
    by_cases hlt : k < 8
    · have hl := rolesK_len m k
      have HS := Lib.hid (rolesK_succ m k)
      cases hb : m.testBit k with
      | true =>
        have ht := and_i64 m k hm
        rw [hb] at ht
        have HB := Lib.hid hb
        clear hb
        go_wp2_with (at_builtin; refine wpList_appM rfl _ _ 37 rfl [] (Mst.alloc S0.out _) el_int rfl _ _ 1 1 [.int .i64 k] rfl (Rd.new1 _ #[.int .i64 k] _ rfl) (one1 _ rfl) (by unfold maxLen; omega) (by omega) ?_; intro A2 c2 w2 s2; have S2 := Lib.hid s2; clear s2)
        go_roundg (8 - (k + 1))
        case measure => exact meas hk hlt
        case rel =>
          refine ⟨k + 1, meas2 hlt, by go_num, ?_⟩
          have a := S2.out
          rw [HS.out, if_pos HB.out]
          simpa using a
      | false =>
        have ht := and_i64 m k hm
        rw [hb] at ht
        have HB := Lib.hid hb
        clear hb
        go_wp2_with fail
        go_roundg (8 - (k + 1))
        case measure => exact meas hk hlt
        case rel =>
          refine ⟨k + 1, meas2 hlt, by go_num, ?_⟩
          rw [HS.out, HB.out]
          exact S0.out
    · obtain rfl : k = 8 := by omega
      go_wp2
      go_ret
      exact ⟨_, rfl, S0.out.bel, S0.out.row []⟩
end Go.Proofs.Ytidphalfafaniaa
