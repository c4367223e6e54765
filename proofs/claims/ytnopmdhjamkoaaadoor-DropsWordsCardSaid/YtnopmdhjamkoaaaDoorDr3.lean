/- Contracts: Count of package drops; the document's Of; the law's to. -/
import Derived.Test.YtnopmdhjamkoaaaDoorDr2
namespace Go.Proofs.YtnopmdhjamkoaaaDoor
set_option linter.unusedVariables false
open Go.RowKit

/-- A slice of ints that is read. -/
def RI (w : World) (B : Nat) (A : Option Addr) (l : List Int) : Prop := Rd w B 1 A l.length (i64s l)
theorem RI.below {w w' : World} {B : Nat} {A : Option Addr} {l : List Int} (h : RI w B A l) (hb : Below B w w') : RI w' B A l := Rd.below h hb
theorem RI.at_ {w : World} {B : Nat} {A : Option Addr} {l : List Int} (h : RI w B A l) (hn : 0 < l.length) : ∃ b o, A = some ⟨b, o, none⟩ ∧ b < B ∧ ∀ k x, l[k]? = some x → w.cell? ⟨b, o + k, none⟩ = some (.int .i64 x) := by
  obtain ⟨b, o, e, hb, hc⟩ := h.2 hn
  exact ⟨b, o, e, hb, fun k x hk => hc _ _ (i64s_get hk)⟩

set_option maxHeartbeats 1000000 in
theorem count13 (g : Nat) (top : Int) (L : List Int) (A : Option Addr) (c : Nat) (l : List Int) (w : World) (hb : Bk w g 97 (dcs top (dns top L))) (hr : RI w w.heap.size A l) (hf : ∀ b o, A = some ⟨b, o, none⟩ → b ≠ g)
    (hl : l.length ≤ 1000000) (ht : 1 ≤ top) (ht' : top ≤ 2147483647) :
    Calls Tryd.prog 24 #[.pointer (some ⟨g, 0, none⟩), .slice A l.length c] w fun r w' => r = .returned (.int .i64 (rsn l : Nat)) ∧ On w w' g ∧ Bk w' g 97 (dcs top (dns top (L ++ l))) := by
  have HR := Lib.hid hr
  have HF := Lib.hid hf
  have HB := Lib.hid hb
  clear hr hf hb
  go_enter Tryd.func24, Tryd.ntmps24
  go_wp2_with fail
  go_loopg [5, 12] l.length (fun gg s5 s12 wr => ∃ k : Nat, k + gg = l.length ∧ s12 = .int .i64 k ∧ s5 = .int .i64 (rsn (l.take k) : Nat) ∧ On w wr g ∧ Bk wr g 97 (dcs top (dns top (L ++ l.take k))))
  case atStart => exact ⟨0, by omega, rfl, rfl, On.refl _ _, by simpa using HB.out⟩
  case round =>
    obtain ⟨k, hk, rfl, rfl, ho, hbk⟩ := hrel
    by_cases hlt : k < l.length
    · obtain ⟨b, o, hA, hbB, hc⟩ := HR.out.at_ (by omega)
      obtain ⟨x, hx⟩ : ∃ x, l[k]? = some x := ⟨_, List.getElem?_eq_getElem hlt⟩
      have e0 := (ho.cell hbB (HF.out _ _ hA)).trans (hc k x hx)
      have HX := Lib.hid hx
      have HO := Lib.hid ho
      have HK := Lib.hid hbk
      have hrl := Nat.le_trans (rsn_le (l.take k)) (List.length_take_le _ _)
      clear hc hx ho hbk
      subst hA
      by_cases hx15 : 1 ≤ x ∧ x ≤ 15
      · have h := isR_yes hx15
        have hs := Lib.hid (rsn_yes HX.out hx15)
        have HA := Lib.hid (dns_add ht (L ++ l.take k) hx15)
        have H15 := Lib.hid hx15
        have hlo := Lib.hid (ofN_lo ht (L ++ l.take k) x)
        have hhi := Lib.hid (ofN_hi ht (L ++ l.take k) x)
        have HG : Hid ((dns top (L ++ l.take k))[x.toNat]? = some (ofN top (L ++ l.take k) x)) := by
          show _ = _
          rw [dns_get top _ (by omega), show ((x.toNat : Nat) : Int) = x by omega]
        have HT : Hid (L ++ l.take (k + 1) = L ++ l.take k ++ [x]) := by
          show _ = _
          rw [List.take_add_one, HX.out, List.append_assoc]; rfl
        clear hx15
        go_wp2_with fail
        refine (reason13 _ _).mono ?_
        rintro r w1 ⟨rfl, b1⟩
        go_wp2_with fail
        refine (add13 g top _ x 1 _ _ (HK.out.below b1 HK.out.lt) H15.out HG.out hlo.out (by have := hhi.out; omega) (by omega) (by omega) ht ht').mono ?_
        rintro r w2 ⟨rfl, o2, k2⟩
        have O2 := Lib.hid o2
        have K2 := Lib.hid k2
        clear o2 k2
        go_wp2_with fail
        go_roundg (l.length - (k + 1))
        case measure => exact meas hk hlt
        case rel => exact ⟨k + 1, meas2 hlt, by go_num, by rw [hs.out] <;> go_num, (HO.out.then_below b1).trans O2.out, by rw [HT.out, ← HA.out]; exact K2.out⟩
      · have h := isR_no hx15
        have hs := Lib.hid (rsn_no HX.out hx15)
        have HT : Hid (dns top (L ++ l.take (k + 1)) = dns top (L ++ l.take k)) := by
          show _ = _
          rw [List.take_add_one, HX.out, ← List.append_assoc]
          exact dns_skip top _ hx15
        clear hx15
        go_wp2_with fail
        refine (reason13 _ _).mono ?_
        rintro r w1 ⟨rfl, b1⟩
        go_wp2_with fail
        go_roundg (l.length - (k + 1))
        case measure => exact meas hk hlt
        case rel => exact ⟨k + 1, meas2 hlt, by go_num, by rw [hs.out] <;> go_num, HO.out.then_below b1, by rw [HT.out]; exact HK.out.below b1 HK.out.lt⟩
    · obtain rfl : k = l.length := by omega
      have HO := Lib.hid ho
      have HK := Lib.hid hbk
      clear ho hbk
      go_wp2_with fail
      go_ret
      exact ⟨by rw [List.take_length]; rfl, HO.out, by have := HK.out; rwa [List.take_length] at this⟩

theorem el_errno : El Tryd.prog 94 41 1 8 := El.of Tryd.underlying94 (z := .int .i64 0) (by kernel_rfl) rfl (by decide)
theorem el_int : El Tryd.prog 85 3 1 8 := El.of Tryd.underlying85 (z := .int .i64 0) (by kernel_rfl) rfl (by decide)

end Go.Proofs.YtnopmdhjamkoaaaDoor
