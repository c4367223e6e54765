/- Contracts of package drops: Of, Total, Worst, Count; the document's Of. -/
import Derived.Test.YtnopmdhjamkoaaaDoorDr1
import Derived.Test.YtnopmdhjamkoaaaDoorBaseA
import Derived.BigQuiet
import Derived.WalkLawsBesides
import Derived.WalkSpells
namespace Go.Proofs.YtnopmdhjamkoaaaDoor
set_option linter.unusedVariables false
open Go.RowKit

theorem idx13 {ns : List Int} (hl : ns.length = 16) {k : Nat} {x : Int} (hx : ns[k]? = some x) (w : World) : (Instr.index 47 (.agg (i64s ns).toArray) (.int .i64 (k : Int))).run Tryd.prog w = .ok (.int .i64 x) w := by
  have hk := (List.getElem?_eq_some_iff.1 hx).1
  exact run_index_arr Tryd.underlying47 (agg_no Tryd.underlying3 rfl) (size_of (by kernel_rfl)) (by omega) (by omega) (by simpa using i64s_get hx) w

theorem of13 (g : Nat) (top : Int) (L : List Int) (e : Int) (w : World) (hb : Bk w g 97 (dcs top (dns top L))) :
    Calls Tryd.prog 25 #[.pointer (some ⟨g, 0, none⟩), .int .i64 e] w fun r w' => r = .returned (.int .i64 (ofN top L e)) ∧ Below w.heap.size w w' := by
  by_cases he : 1 ≤ e ∧ e ≤ 15
  · have h := isR_yes he
    obtain ⟨k, rfl⟩ : ∃ k : Nat, e = k := ⟨e.toNat, by omega⟩
    have hidx := idx13 (dns_len top L) (dns_get top L (k := k) (by omega))
    have HB := Lib.hid hb
    clear hb he
    go_enter Tryd.func25, Tryd.ntmps25
    go_wp2_with fail
    refine (reason13 _ _).mono ?_
    rintro r w1 ⟨rfl, b1⟩
    go_wp2_with fail
    refine (all13 g top _ _ (HB.out.below b1 HB.out.lt) (dns_len _ _)).mono ?_
    rintro r w2 ⟨rfl, b2⟩
    go_wp2_with fail
    go_ret
    exact ⟨rfl, Bsz b1 b2⟩
  · have h := isR_no he
    have h0 := Lib.hid (@ofN_no top L e he)
    clear he
    go_enter Tryd.func25, Tryd.ntmps25
    go_wp2_with fail
    refine (reason13 _ _).mono ?_
    rintro r w1 ⟨rfl, b1⟩
    go_wp2_with fail
    go_ret
    exact ⟨by rw [h0.out]; rfl, b1⟩

theorem total13 (g : Nat) (top : Int) (L : List Int) (w : World) (hb : Bk w g 97 (dcs top (dns top L))) (ht : 1 ≤ top) (ht' : top ≤ 2147483647) :
    Calls Tryd.prog 26 #[.pointer (some ⟨g, 0, none⟩)] w fun r w' => r = .returned (.int .i64 (sumK (dns top L) 16)) ∧ Below w.heap.size w w' := by
  have HD := Lib.hid (dns_bd ht ht' L)
  go_enter Tryd.func26, Tryd.ntmps26
  go_wp2_with fail
  refine (all13 g top _ _ hb (dns_len _ _)).mono ?_
  rintro r w1 ⟨rfl, b1⟩
  clear hb ht ht'
  go_wp2_with fail
  go_loopg [3, 8] 16 (fun g s3 s8 wr => ∃ k : Nat, k + g = 16 ∧ s8 = .int .i64 k ∧ s3 = .int .i64 (sumK (dns top L) k) ∧ wr = w1)
  case atStart => exact ⟨0, by omega, rfl, rfl, rfl⟩
  case round =>
    obtain ⟨k, hk, rfl, rfl, rfl⟩ := hrel
    by_cases hlt : k < 16
    · have hx := dns_get top L hlt
      have hidx := idx13 (dns_len top L) hx
      have hs := Lib.hid (sumK_step hx)
      have hbd := sumK_bd HD.out k (by rw [dns_len]; omega)
      have hxb := HD.out _ (List.mem_of_getElem? hx)
      clear hx
      generalize hgx : ofN top L (k : Int) = x at *
      have Hgx := Lib.hid hgx
      clear hgx
      go_wp2_with fail
      go_roundg (16 - (k + 1))
      case measure => exact meas hk hlt
      case rel => exact ⟨k + 1, meas2 hlt, by go_num, by rw [hs.out] <;> go_num, rfl⟩
    · obtain rfl : k = 16 := by omega
      go_wp2_with fail
      go_ret
      exact ⟨rfl, b1⟩

theorem worst13 (g : Nat) (top : Int) (L : List Int) (w : World) (hb : Bk w g 97 (dcs top (dns top L))) :
    Calls Tryd.prog 21 #[.pointer (some ⟨g, 0, none⟩)] w fun r w' => r = .returned (.tuple #[.int .i64 (wst (dns top L) 16).1, .int .i64 (wst (dns top L) 16).2]) ∧ Below w.heap.size w w' := by
  go_enter Tryd.func21, Tryd.ntmps21
  go_wp2_with fail
  refine (all13 g top _ _ hb (dns_len _ _)).mono ?_
  rintro r w1 ⟨rfl, b1⟩
  clear hb
  go_wp2_with fail
  go_loopg [4, 5, 10] 16 (fun g s4 s5 s10 wr => ∃ k : Nat, k + g = 16 ∧ s10 = .int .i64 k ∧ s4 = .int .i64 (wst (dns top L) k).1 ∧ s5 = .int .i64 (wst (dns top L) k).2 ∧ wr = w1)
  case atStart => exact ⟨0, by omega, rfl, rfl, rfl, rfl⟩
  case round =>
    obtain ⟨k, hk, rfl, rfl, rfl, rfl⟩ := hrel
    by_cases hlt : k < 16
    · have hx := dns_get top L hlt
      have hidx := idx13 (dns_len top L) hx
      by_cases hq : (wst (dns top L) k).2 < ofN top L (k : Int)
      · have hs := Lib.hid (wst_yes hx hq)
        clear hx
        generalize hgx : ofN top L (k : Int) = x at *
        have Hgx := Lib.hid hgx
        clear hgx
        go_wp2_with fail
        go_roundg (16 - (k + 1))
        case measure => exact meas hk hlt
        case rel => exact ⟨k + 1, meas2 hlt, by go_num, by rw [hs.out] <;> go_num, by rw [hs.out] <;> go_num, rfl⟩
      · have hs := Lib.hid (wst_no hx hq)
        clear hx
        generalize hgx : ofN top L (k : Int) = x at *
        have Hgx := Lib.hid hgx
        clear hgx
        go_wp2_with fail
        go_roundg (16 - (k + 1))
        case measure => exact meas hk hlt
        case rel => exact ⟨k + 1, meas2 hlt, by go_num, by rw [hs.out] <;> go_num, by rw [hs.out] <;> go_num, rfl⟩
    · obtain rfl : k = 16 := by omega
      go_wp2_with fail
      go_ret2
      exact ⟨rfl, b1⟩
end Go.Proofs.YtnopmdhjamkoaaaDoor
