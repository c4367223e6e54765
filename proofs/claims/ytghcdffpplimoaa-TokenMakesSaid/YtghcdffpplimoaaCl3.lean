/- The chapter's example of claims; Covers, Mask, Roles. -/
import Derived.Test.YtghcdffpplimoaaCl2
import Derived.Test.YtghcdffpplimoaaBaseA
import Derived.Test.YtghcdffpplimoaaMask
namespace Go.Proofs.Ytghcdffpplimoaa
set_option linter.unusedVariables false
open Go.RowKit

theorem kn05 : clB 258 3 5 7 = [1, 2, 3, 0, 0, 0, 5, 0, 7] := by decide
def MaskPost (W : World) (l : List Int) (e : Ending) (w' : World) : Prop := e = .returned (.tuple (if rolesOk l then #[.int .i64 (maskN l : Nat), .int .i64 0] else #[.int .i64 0, .int .i64 10])) ∧ W = w'
theorem rolesOk_take {l : List Int} {k : Nat} {r : Int} (h : l[k]? = some r) (hr : ¬ (0 ≤ r ∧ r < 8)) : rolesOk l = false := by
  rw [Bool.eq_false_iff]
  intro hh
  exact hr ((rolesOk_iff l).1 hh r (List.mem_of_getElem? h))

set_option maxRecDepth 100000 in
set_option maxHeartbeats 1600000 in
theorem mask_any (l : List Int) (A : Option Addr) (c : Nat) (w : World) (hl : Rd w w.heap.size 1 A l.length (l.map (.int .i64))) (hn : l.length ≤ maxLen) :
    Calls Try.prog 82 #[.slice A l.length c] w (MaskPost w l) := by
  unfold maxLen at hn
  have H1 := Lib.hid hl
  clear hl
  go_enter Try.func82, Try.ntmps82
  go_wp2_with fail
  go_loopg [4, 9] l.length (fun gg s4 s9 wr => ∃ k : Nat, k + gg = l.length ∧ s9 = .int .i64 k ∧ s4 = .int .i64 (maskN (l.take k) : Nat) ∧ rolesOk (l.take k) = true ∧ w = wr)
  case atStart => exact ⟨0, by omega, rfl, rfl, rfl, rfl⟩
  case round =>
    obtain ⟨k, hk, rfl, rfl, ho, rfl⟩ := hrel
    have HO := Lib.hid ho
    clear ho
    by_cases hlt : k < l.length
    · obtain ⟨r, hr⟩ : ∃ r, l[k]? = some r := ⟨_, List.getElem?_eq_getElem hlt⟩
      obtain ⟨b, o, rfl, hb, hc⟩ := H1.out.2 (by omega)
      have d0 := hc k (.int .i64 r) (by simp [hr])
      have HR := Lib.hid hr
      clear hc hr
      have i1 : (k : Int) < (l.length : Int) := by omega
      have i2 : (0 : Int) ≤ (k : Int) := by omega
      by_cases h0 : 0 ≤ r
      · by_cases h8 : r < 8
        · obtain ⟨q, rfl⟩ : ∃ q : Nat, r = (q : Int) := ⟨r.toNat, by omega⟩
          have hm := maskN_lt (l.take k) ((rolesOk_iff _).1 HO.out)
          have HQ := Lib.hid (or_i64 (maskN (l.take k)) q hm (by omega))
          have ht : l.take (k + 1) = l.take k ++ [(q : Int)] := by rw [List.take_add_one, HR.out]; rfl
          have HX := Lib.hid (show maskN (l.take (k + 1)) = maskN (l.take k) ||| 2 ^ q by rw [ht, maskN_snoc]; simp)
          have HY := Lib.hid (show rolesOk (l.take (k + 1)) = true by
            rw [rolesOk_iff, ht]
            intro x hx
            rcases List.mem_append.1 hx with hx | hx
            · exact (rolesOk_iff _).1 HO.out x hx
            · simp at hx; omega)
          clear ht
          go_wp2_with fail
          go_roundg (l.length - (k + 1))
          case measure => exact meas hk hlt
          case rel => exact ⟨k + 1, meas2 hlt, by go_num, by rw [HX.out, ← HQ.out], HY.out, rfl⟩
        · have HN := Lib.hid (rolesOk_take HR.out (by omega))
          go_wp2
          go_ret2
          exact ⟨by rw [HN.out]; rfl, rfl⟩
      · have HN := Lib.hid (rolesOk_take HR.out (by omega))
        go_wp2
        go_ret2
        exact ⟨by rw [HN.out]; rfl, rfl⟩
    · have ht : l.take k = l := List.take_of_length_le (by omega)
      have HT := Lib.hid ht
      clear ht
      go_wp2
      go_ret2
      have a := HO.out
      rw [HT.out] at a
      exact ⟨by rw [a, HT.out]; rfl, rfl⟩

theorem el_int : El Try.prog 73 3 1 8 := El.of Try.underlying73 (z := .int .i64 0) (by kernel_rfl) rfl (by decide)

end Go.Proofs.Ytghcdffpplimoaa
