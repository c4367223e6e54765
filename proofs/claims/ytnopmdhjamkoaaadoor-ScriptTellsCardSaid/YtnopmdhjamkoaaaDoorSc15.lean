/- The document's number: any numeral of base 10. -/
import Derived.Test.YtnopmdhjamkoaaaDoorSc14
import Derived.Lib.ItoaLen
import Derived.Lib.ItoaMem
namespace Go.Proofs.YtnopmdhjamkoaaaDoor
set_option linter.unusedVariables false
set_option linter.unusedSimpArgs false
open Go.RowKit
theorem str_add31 {a b : ByteArray} {n m : Nat} (ha : a.size ≤ n) (hb : b.size ≤ m) (h : n + m ≤ 1000000) : (∀ w, (Op.stringOp .add a b).run Tryd.prog w = .ok (.string (a ++ b)) w) ∧ (a ++ b).size ≤ n + m :=
  ⟨fun w => run_string_add_sum w a b (by omega), by rw [ByteArray.size_append]; omega⟩
/-- A number's digits. -/
def decB (n : Nat) : ByteArray := ⟨(Lib.decDigits n).toArray⟩
theorem decB_one {n : Nat} (h : n < 10) : decB n = ⟨#[UInt8.ofNat (48 + n)]⟩ := by unfold decB; rw [Lib.decDigits_one h]
theorem decB_step {n : Nat} (h : ¬ n < 10) : decB n = decB (n / 10) ++ decB (n % 10) := by
  rw [decB_one (Nat.mod_lt n (by decide))]
  unfold decB
  conv => lhs; rw [Lib.decDigits, dif_neg h]
  apply ByteArray.ext
  simp [ByteArray.data_append]
theorem decB_size (n : Nat) (h : n ≤ 9223372036854775807) : (decB n).size ≤ 21 := by
  have := Lib.itoa_length_le (n : Int) (by omega) (by omega)
  rw [Lib.itoa_nonneg] at this
  simpa [decB, ByteArray.size] using this
theorem number_any : ∀ (m n : Nat), n ≤ m → n ≤ 9223372036854775807 → ∀ w, Calls Tryd.prog 67 #[.int .i64 (n : Int)] w fun r w' => r = .returned (.string (decB n)) ∧ Below w.heap.size w w'
  | m, n, hm, hn, w => by
    by_cases h : n < 10
    · rw [decB_one h]
      exact number_one n h w
    · match m, hm with
      | 0, hm => omega
      | m + 1, hm =>
        have HA := Lib.hid (number_any m (n / 10) (by omega) (by omega))
        have HD := Lib.hid (number_any m (n % 10) (by omega) (by omega))
        have hadd := (str_add31 (decB_size (n / 10) (by omega)) (decB_size (n % 10) (by omega)) (by decide)).1
        rw [← decB_step h] at hadd
        generalize decB (n / 10) = a at HA hadd
        generalize decB (n % 10) = b at HD hadd
        generalize decB n = s at hadd ⊢
        have HADD := hadd
        have i1 : (10 : Int) ≤ n := by omega
        have i2 : (n : Int) ≤ 9223372036854775807 := by omega
        have e1 : ((n / 10 : Nat) : Int) = (n : Int) / 10 := by omega
        have e2 : ((n % 10 : Nat) : Int) = (n : Int) % 10 := by omega
        have e3 : Int.tdiv (n : Int) 10 = (n : Int) / 10 := Int.tdiv_eq_ediv_of_nonneg (by omega)
        have e4 : Int.tmod (n : Int) 10 = (n : Int) % 10 := Int.tmod_eq_emod_of_nonneg (by omega)
        rw [e1] at HA
        rw [e2] at HD
        clear h hm hn e1 e2 hadd
        go_enter Tryd.func67, Tryd.ntmps67
        go_wp2_with fail
        refine (HA.out _).mono ?_
        rintro r w1 ⟨rfl, hb1⟩
        have HB1 := Lib.hid hb1
        clear hb1
        go_wp2_with fail
        refine (HD.out _).mono ?_
        rintro r w2 ⟨rfl, hb2⟩
        have HB2 := Lib.hid (HB1.out.trans (hb2.mono HB1.out.size))
        clear hb2
        go_wp2
        go_ret
        exact ⟨rfl, HB2.out⟩
end Go.Proofs.YtnopmdhjamkoaaaDoor
