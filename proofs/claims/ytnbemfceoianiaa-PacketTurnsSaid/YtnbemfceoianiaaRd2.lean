/- Contracts of package wire: the reader's number. -/
import Derived.Test.YtnbemfceoianiaaRd1
import Derived.Test.YtnbemfceoianiaaBaseB
namespace Go.Proofs.Ytnbemfceoianiaa
set_option linter.unusedVariables false
open Go.RowKit

theorem width_is (s : Int) (h0 : 0 ≤ s) (h1 : s ≤ 3) (w : World) : Calls Try.prog 84 #[.int .i64 s] w fun e w' => e = .returned (.int .i64 (widB s : Nat)) ∧ w = w' := by
  have hs : s = 0 ∨ s = 1 ∨ s = 2 ∨ s = 3 := by omega
  rcases hs with rfl | rfl | rfl | rfl
  · exact width_0 w
  · exact width_1 w
  · exact width_2 w
  · exact width_3 w
theorem rtake_any (W w : World) (xb : Bl) (xr : List Ro) (bl : Bl) (ow : List Ro) (g : Nat) (st : RS) (hR : RrX W xb xr bl ow g st w) (n : Nat) (hn : n ≤ 1000000) :
    Calls Try.prog 74 #[.pointer (some ⟨g, 0, none⟩), .int .i64 n] w (TakePost W xb xr bl ow g st n) := by
  by_cases h : st.2 = 0 ∧ n ≤ st.1.length
  · exact take_ok W w xb xr bl ow g st hR n hn h.1 h.2
  · exact take_fail W w xb xr bl ow g st hR n hn (by omega)

theorem or_byte (V c : Nat) (hV : V < 72057594037927936) (hc : c < 256) : bits .or .u64 (IntKind.u64.wrap ((V : Int) * 256)) (IntKind.u64.wrap (c : Int)) = ((V * 256 + c : Nat) : Int) := by
  rw [IntKind.wrap_u64, IntKind.wrap_u64, show ((V : Int) * 256 % 18446744073709551616) = ((V * 256 : Nat) : Int) by omega, show ((c : Int) % 18446744073709551616) = (c : Int) by omega, u64_or_nat _ _ (by omega) (by omega)]
  have := Nat.two_pow_add_eq_or_of_lt (i := 8) (show c < 2 ^ 8 by omega) V
  rw [show V * 256 = 2 ^ 8 * V by omega, ← this]
theorem valB_lt56 (l : List UInt8) (h : l.length ≤ 7) : valB l < 72057594037927936 := by
  have h1 := valB_lt l
  have h2 : 256 ^ l.length ≤ 256 ^ 7 := Nat.pow_le_pow_right (by decide) h
  have h3 : 256 ^ 7 = 72057594037927936 := by decide
  omega
theorem valB_lt64 (l : List UInt8) (h : l.length ≤ 8) : valB l < 18446744073709551616 := by
  have h1 := valB_lt l
  have h2 : 256 ^ l.length ≤ 256 ^ 8 := Nat.pow_le_pow_right (by decide) h
  have h3 : 256 ^ 8 = 18446744073709551616 := by decide
  omega

def NumPost (W : World) (xb : Bl) (xr : List Ro) (bl : Bl) (ow : List Ro) (g : Nat) (st : RS) (n : Nat) (e : Ending) (w' : World) : Prop :=
  e = .returned (.tuple #[.int .i64 (numV st n : Nat), .bool (numO st n)]) ∧ RrX W xb xr bl ow g (numS st n) w'

set_option maxRecDepth 100000 in
set_option maxHeartbeats 3200000 in
theorem rnumber_any (W w : World) (xb : Bl) (xr : List Ro) (bl : Bl) (ow : List Ro) (g : Nat) (st : RS) (hR : RrX W xb xr bl ow g st w) (s : Int) (h0 : 0 ≤ s) (h3 : s ≤ 3) :
    Calls Try.prog 73 #[.pointer (some ⟨g, 0, none⟩), .int .i64 s] w (NumPost W xb xr bl ow g st (widB s)) := by
  have HR := Lib.hid hR
  have hw8 := widB_le s
  clear hR
  go_enter Try.func73, Try.ntmps73
  go_wp2_with fail
  refine (width_is s h0 h3 _).mono ?_
  rintro e w' ⟨rfl, rfl⟩
  obtain ⟨n, hn⟩ : ∃ n, widB s = n := ⟨_, rfl⟩
  rw [hn] at hw8 ⊢
  have HN := Lib.hid hn
  clear hn h0 h3
  go_wp2_with fail
  refine (rtake_any W _ xb xr bl ow g st HR.out n (by omega)).mono ?_
  rintro e w1 ⟨A, c, rfl, hs, hr⟩
  obtain ⟨b, hb⟩ : ∃ b, takeR st n = b := ⟨_, rfl⟩
  have hbl : b.length ≤ n := by rw [← hb]; exact takeR_len2 st n
  rw [hb] at hs ⊢
  have HR1 := Lib.hid hr
  obtain ⟨A1, c1, m1, _⟩ := hr
  have HB := Lib.hid hb
  have HD := Lib.hid (m1.src (hs.sub (fun _ h => List.mem_cons_of_mem _ (List.mem_append_right _ h)) (fun _ h => List.mem_append_right _ h)))
  clear hb hs m1
  go_wp2_with fail
  go_loopg [7, 16] b.length (fun gg s7 s16 wr => ∃ k : Nat, k + gg = b.length ∧ s16 = .int .i64 k ∧ s7 = .int .u64 (valB (b.take k) : Nat) ∧ w1 = wr)
  case atStart => exact ⟨0, by omega, rfl, rfl, rfl⟩
  case round =>
    obtain ⟨k, hk, rfl, rfl, rfl⟩ := hrel
    by_cases hlt : k < b.length
    · obtain ⟨x, hx⟩ : ∃ x, b[k]? = some x := ⟨_, List.getElem?_eq_getElem hlt⟩
      obtain ⟨bb, o, rfl, hbb, hc⟩ := RB.at_ HD.out (by omega)
      have d0 := hc k x hx
      have ht : b.take (k + 1) = b.take k ++ [x] := by rw [List.take_add_one, hx]; rfl
      obtain ⟨V, hV⟩ : ∃ V, valB (b.take k) = V := ⟨_, rfl⟩
      have hV56 : V < 72057594037927936 := by rw [← hV]; exact valB_lt56 _ (by simp; omega)
      have HQ := Lib.hid (or_byte V x.toNat hV56 x.toNat_lt)
      have HX := Lib.hid (show valB (b.take (k + 1)) = V * 256 + x.toNat by rw [ht, valB_snoc, hV])
      rw [hV]
      clear hc hx ht hV hV56
      have i1 : (k : Int) < (b.length : Int) := by omega
      have i2 : (0 : Int) ≤ (k : Int) := by omega
      go_wp2_with fail
      go_roundg (b.length - (k + 1))
      case measure => exact meas hk hlt
      case rel => exact ⟨k + 1, meas2 hlt, by go_num, by rw [HX.out, ← HQ.out], rfl⟩
    · have ht : b.take k = b := List.take_of_length_le (by omega)
      obtain ⟨V, hV⟩ : ∃ V, valB b = V := ⟨_, rfl⟩
      rw [ht, hV]
      have hV64 : V < 18446744073709551616 := by rw [← hV]; exact valB_lt64 _ (by omega)
      have HV := Lib.hid hV
      have H64 := Lib.hid hV64
      clear ht hV hV64
      by_cases hbig : 9223372036854775807 < V
      · have hd : ((9223372036854775807 : Int) < (V : Int)) := by omega
        have HBG := Lib.hid hbig
        clear hbig
        go_wp2_with fail
        refine (fail_any W _ xb xr bl ow g _ HR1.out 3).mono ?_
        rintro e w2 ⟨rfl, h2⟩
        have H2 := Lib.hid h2
        clear h2
        go_wp2_with fail
        go_ret2
        have hlt : 9223372036854775807 < valB (takeR st (widB s)) := by rw [HN.out, HB.out, HV.out]; exact HBG.out
        refine ⟨?_, ?_⟩
        · unfold numV numO
          rw [if_pos hlt]
          simp only [hlt, not_true_eq_false, decide_false, Bool.false_and]
          rfl
        · unfold numS
          rw [if_pos hlt, HN.out]
          exact H2.out
      · have hd : ((V : Int) ≤ 9223372036854775807) := by omega
        have HBG := Lib.hid hbig
        clear hbig
        go_wp2_with fail
        go_ret2
        have hlt : ¬ 9223372036854775807 < valB (takeR st (widB s)) := by rw [HN.out, HB.out, HV.out]; exact HBG.out
        refine ⟨?_, ?_⟩
        · unfold numV numO
          rw [if_neg hlt]
          simp only [hlt, not_false_eq_true, decide_true, Bool.true_and]
          rw [HN.out, HB.out, HV.out]
          first | rfl | simp
        · unfold numS
          rw [if_neg hlt, HN.out]
          exact HR1.out
end Go.Proofs.Ytnbemfceoianiaa
