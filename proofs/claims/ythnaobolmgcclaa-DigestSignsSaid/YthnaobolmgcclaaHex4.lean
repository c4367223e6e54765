/- Signs there and back: plain laws. -/
import Derived.Test.YthnaobolmgcclaaHex3
namespace Go.Proofs.Ythnaobolmgcclaa
set_option linter.unusedVariables false

theorem hexL_get : ∀ (l : List UInt8) (i : Nat), i < l.length → (hexL l).getD (2 * i) 0 = sgn ((l.getD i 0).toNat / 16) ∧ (hexL l).getD (2 * i + 1) 0 = sgn ((l.getD i 0).toNat % 16)
  | [], i, h => by simp at h
  | b :: l, 0, _ => ⟨rfl, rfl⟩
  | b :: l, i + 1, h => by
    have := hexL_get l i (by simpa using h)
    have e : hexL (b :: l) = sgn (b.toNat / 16) :: sgn (b.toNat % 16) :: hexL l := rfl
    rw [e]
    exact this
theorem hexL_ok (l : List UInt8) : okS (hexL l) := by
  refine ⟨by rw [hexL_len]; omega, fun c hc => ?_⟩
  unfold hexL at hc
  rw [List.mem_flatMap] at hc
  obtain ⟨b, _, hb⟩ := hc
  have h1 := b.toNat_lt
  have : c = sgn (b.toNat / 16) ∨ c = sgn (b.toNat % 16) := by simpa using hb
  rcases this with rfl | rfl
  · rw [vI_sgn _ (by omega)]; omega
  · rw [vI_sgn _ (by omega)]; omega
theorem unL_hexL (l : List UInt8) : ∀ k, k ≤ l.length → unL (hexL l) k = l.take k
  | 0, _ => by simp [unL]
  | k + 1, h => by
    rw [unL_succ, unL_hexL l k (by omega)]
    obtain ⟨h1, h2⟩ := hexL_get l k (by omega)
    have hb := (l.getD k 0).toNat_lt
    have e1 : l.getD k 0 = l[k]'(by omega) := by rw [List.getD_eq_getElem?_getD, List.getElem?_eq_getElem (by omega)]; rfl
    rw [h1, h2, vI_sgn _ (by omega), vI_sgn _ (by omega), List.take_succ_eq_append_getElem (by omega), ← e1]
    congr 2
    refine UInt8.toNat_inj.1 ?_
    rw [UInt8.toNat_ofNat']
    omega
theorem hexL_unL (s : List UInt8) (hs : okS s) : ∀ k, 2 * k ≤ s.length → hexL (unL s k) = s.take (2 * k)
  | 0, _ => by simp [unL, hexL]
  | k + 1, h => by
    have hin : ∀ j, j < s.length → 0 ≤ vI (s.getD j 0) := fun j hj => hs.2 _ (by
      rw [List.getD_eq_getElem?_getD, List.getElem?_eq_getElem hj]
      exact List.getElem_mem _)
    have a0 := hin (2 * k) (by omega)
    have b0 := hin (2 * k + 1) (by omega)
    have e1 : s.getD (2 * k) 0 = s[2 * k]'(by omega) := by rw [List.getD_eq_getElem?_getD, List.getElem?_eq_getElem (by omega)]; rfl
    have e2 : s.getD (2 * k + 1) 0 = s[2 * k + 1]'(by omega) := by rw [List.getD_eq_getElem?_getD, List.getElem?_eq_getElem (by omega)]; rfl
    have a1 := vI_bound (s.getD (2 * k) 0)
    have b1 := vI_bound (s.getD (2 * k + 1) 0)
    have e3 : hexL (unL s k ++ [UInt8.ofNat (16 * vI (s.getD (2 * k) 0) + vI (s.getD (2 * k + 1) 0)).toNat]) = hexL (unL s k) ++ [sgn ((UInt8.ofNat (16 * vI (s.getD (2 * k) 0) + vI (s.getD (2 * k + 1) 0)).toNat).toNat / 16), sgn ((UInt8.ofNat (16 * vI (s.getD (2 * k) 0) + vI (s.getD (2 * k + 1) 0)).toNat).toNat % 16)] := by
      simp [hexL]
    rw [unL_succ, e3, hexL_unL s hs k (by omega), UInt8.toNat_ofNat']
    have f1 : (16 * vI (s.getD (2 * k) 0) + vI (s.getD (2 * k + 1) 0)).toNat % 2 ^ 8 / 16 = (vI (s.getD (2 * k) 0)).toNat := by omega
    have f2 : (16 * vI (s.getD (2 * k) 0) + vI (s.getD (2 * k + 1) 0)).toNat % 2 ^ 8 % 16 = (vI (s.getD (2 * k + 1) 0)).toNat := by omega
    rw [f1, f2, (sgn_vI _ a0).1, (sgn_vI _ b0).1, e1, e2]
    have g1 : s.take (2 * k + 1) = s.take (2 * k) ++ [s[2 * k]'(by omega)] := List.take_succ_eq_append_getElem (by omega)
    have g2 : s.take (2 * k + 1 + 1) = s.take (2 * k + 1) ++ [s[2 * k + 1]'(by omega)] := List.take_succ_eq_append_getElem (by omega)
    rw [show 2 * (k + 1) = 2 * k + 1 + 1 by omega, g2, g1, List.append_assoc]
    rfl
/-- Right signs, as far as k of them. -/
def okB (s : List UInt8) (k : Nat) : Bool := s.length % 2 == 0 && (s.take k).all fun c => decide (0 ≤ vI c)
theorem okB_succ (s : List UInt8) (k : Nat) (h : k < s.length) : okB s (k + 1) = (okB s k && decide (0 ≤ vI (s.getD k 0))) := by
  have e1 : s.getD k 0 = s[k] := by rw [List.getD_eq_getElem?_getD, List.getElem?_eq_getElem h]; rfl
  unfold okB
  rw [List.take_succ_eq_append_getElem h, List.all_append, e1]
  simp [Bool.and_assoc]
theorem okB_all (s : List UInt8) : okB s s.length = true ↔ okS s := by
  unfold okB okS
  simp
end Go.Proofs.Ythnaobolmgcclaa
