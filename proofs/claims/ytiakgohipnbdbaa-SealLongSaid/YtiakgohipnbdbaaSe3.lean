/- Package seal: contract of turned. -/
import Derived.Test.YtiakgohipnbdbaaSe1
namespace Go.Proofs.Ytiakgohipnbdbaa
set_option linter.unusedVariables false
set_option linter.unusedSimpArgs false
open Go.RowKit

/-- Bytes, each with the stream's. -/
def trn (b s : List UInt8) : List UInt8 := List.zipWith (· ^^^ ·) b s
theorem trn_len {b s : List UInt8} (h : b.length ≤ s.length) : (trn b s).length = b.length := by simp [trn]; omega
/-- The first k of them. -/
def trnK (b s : List UInt8) (k : Nat) : List UInt8 := (trn b s).take k ++ b.drop k
theorem trnK_0 (b s : List UInt8) : trnK b s 0 = b := by simp [trnK]
theorem trnK_full {b s : List UInt8} (h : b.length ≤ s.length) : trnK b s b.length = trn b s := by
  rw [trnK, List.drop_length, List.append_nil, List.take_of_length_le (by rw [trn_len h]; exact Nat.le_refl _)]
theorem trnK_len {b s : List UInt8} (h : b.length ≤ s.length) {k : Nat} (hk : k ≤ b.length) : (trnK b s k).length = b.length := by
  rw [trnK, List.length_append, List.length_take, trn_len h, List.length_drop]; omega
theorem trnK_get {b s : List UInt8} (h : b.length ≤ s.length) {k : Nat} (hk : k < b.length) : (trnK b s k).getD k 0 = b.getD k 0 := by
  have h1 : ((trn b s).take k).length = k := by rw [List.length_take, trn_len h]; omega
  rw [trnK, List.getD_eq_getElem?_getD, List.getElem?_append_right (by omega), h1, Nat.sub_self, List.getElem?_drop, Nat.add_zero, ← List.getD_eq_getElem?_getD]
theorem trnK_set {b s : List UInt8} (h : b.length ≤ s.length) {k : Nat} (hk : k < b.length) : (trnK b s k).set k (b.getD k 0 ^^^ s.getD k 0) = trnK b s (k + 1) := by
  have h1 : ((trn b s).take k).length = k := by rw [List.length_take, trn_len h]; omega
  have h2 : (trn b s)[k]? = some (b.getD k 0 ^^^ s.getD k 0) := by
    simp only [trn, List.getElem?_zipWith]
    rw [List.getElem?_eq_getElem hk, List.getElem?_eq_getElem (show k < s.length by omega)]
    simp [List.getD_eq_getElem?_getD, List.getElem?_eq_getElem hk, List.getElem?_eq_getElem (show k < s.length by omega)]
  rw [trnK, List.set_append_right _ _ (by omega), h1, Nat.sub_self, trnK, List.take_add_one, h2, List.drop_eq_getElem_cons hk, List.set_cons_zero]
  simp
theorem trnK_skip {b s : List UInt8} (h : b.length ≤ s.length) {k : Nat} (hk : k < b.length) (h0 : s.getD k 0 = 0) : trnK b s k = trnK b s (k + 1) := by
  have e := trnK_set h hk
  rw [h0, UInt8.xor_zero] at e
  rw [← e]
  have h3 := trnK_get h hk
  rw [← h3, List.getD_eq_getElem?_getD]
  have hl : k < (trnK b s k).length := by rw [trnK_len h (by omega)]; exact hk
  rw [List.getElem?_eq_getElem hl]
  simp

structure TnL (w wr : World) (v : Value) (n : Nat) (l : List UInt8) : Prop where
  m : Mst w wr [] [⟨5, 1, v, n, by8 l⟩]
theorem own_fr {w : World} {base e size n g cap : Nat} {xs : List Value} (h : w.ownsRow base e size (.slice (some ⟨g, 0, none⟩) n cap) n xs) (i : Nat) : w.frozen? ⟨g, i, none⟩ = false := by
  rcases h.2 with ⟨h1, _⟩ | ⟨g', cap', cur, h1, h2, h3, _⟩
  · cases h1
  · injection h1 with h1 _ _
    injection h1 with h1
    injection h1 with h1 _ _
    subst h1
    exact Bk.fr h3 i
theorem own_cell {w : World} {base e n g cap : Nat} {l : List UInt8} (h : w.ownsRow base e 1 (.slice (some ⟨g, 0, none⟩) n cap) n (by8 l)) {k : Nat} (hk : k < l.length) : w.cell? ⟨g, k, none⟩ = some (Bv (l.getD k 0)) := by
  have := h.cells (g := g) rfl k _ (by8_getD hk)
  rw [WideShapes.add_plain, Nat.zero_add] at this
  exact this

set_option maxRecDepth 100000 in
set_option maxHeartbeats 1600000 in
theorem turned_any2 (w : World) (A : Option Addr) (c : Nat) (b : List UInt8) (hr : RB w w.heap.size A b) (A' : Option Addr) (c' : Nat) (s : List UInt8) (hr' : RB w w.heap.size A' s) (hl : b.length ≤ s.length) (hn : b.length ≤ 100000) :
    Calls Try.prog 71 #[.slice A b.length c, .slice A' s.length c'] w (RetFresh w 5 1 b.length (by8 (trn b s))) := by
  have HC := Lib.hid (sclone_any A c b w hr (by omega))
  obtain ⟨n, hN⟩ : ∃ n, b.length = n := ⟨_, rfl⟩
  obtain ⟨m, hM⟩ : ∃ n, s.length = n := ⟨_, rfl⟩
  have HR := Lib.hid hr'
  have HN := Lib.hid hN
  have HM := Lib.hid hM
  have HL := Lib.hid hl
  rw [hN] at HC hn hl ⊢
  rw [hM] at hl ⊢
  have ST := fun (x : UInt8) p w => Bv_store (P := Try.prog) x w p
  have SC := fun x => (Value.cells.eq_def (Bv x)).symm.trans (Bv_cells x)
  have BX := fun x y w => Bv_xor (P := Try.prog) 5 x y w
  clear hr hr' hN hM
  go_enter Try.func71, Try.ntmps71
  go_wp2_with fail
  go_step3
  go_wp2_with fail
  refine HC.out.mono ?_
  rintro e w1 ⟨v, rfl, hf⟩
  have m1 := (Mst.start w).addr hf
  obtain ⟨Av, cv, rfl, _, _, hcv, _⟩ := own_form (m1.row [])
  have M1 := Lib.hid (show TnL w w1 (.slice Av n cv) n (trnK b s 0) from ⟨by rw [trnK_0]; exact m1⟩)
  clear HC hf m1
  go_wp2_with fail
  go_step3
  go_wp2_with fail
  go_loopg [11] n (fun gk s11 wr => ∃ k : Nat, k + gk = n ∧ s11 = .int .i64 k ∧ TnL w wr (.slice Av n cv) n (trnK b s k))
  case atStart => exact ⟨0, by omega, rfl, M1.out⟩
  case round =>
    obtain ⟨k, hk, rfl, ⟨hm⟩⟩ := hrel
    by_cases hlt : k < n
    · obtain ⟨b0, o0, rfl, hbw, hcell⟩ := HR.out.at_ (by have := HM.out; omega)
      have hkb : k < b.length := by have := HN.out; omega
      have hks : k < s.length := by have := HM.out; omega
      have cs := hm.old hbw (hcell k _ (getD_at hks))
      have hkm : k < m := by omega
      have HM1 := Lib.hid hm
      rcases hAv : Av with _ | a
      · exfalso
        subst hAv
        rcases (hm.row []).2 with ⟨_, h2⟩ | ⟨g, cap, cur, h1, _⟩
        · omega
        · cases h1
      subst hAv
      obtain ⟨g, hg⟩ : ∃ g, a = ⟨g, 0, none⟩ := by
        rcases (hm.row []).2 with ⟨h1, h2⟩ | ⟨g, cap, cur, h1, _⟩
        · cases h1
        · injection h1 with h1 _ _
          injection h1 with h1
          exact ⟨g, h1⟩
      subst hg
      have fr := own_fr (hm.row []) k
      have co := own_cell (hm.row []) (k := k) (by rw [trnK_len HL.out (by omega)]; exact hkb)
      rw [trnK_get HL.out hkb] at co
      obtain ⟨x, hx⟩ : ∃ x, b.getD k 0 = x := ⟨_, rfl⟩
      obtain ⟨y, hy⟩ : ∃ x, s.getD k 0 = x := ⟨_, rfl⟩
      have HS := Lib.hid (trnK_set HL.out hkb)
      have HK := Lib.hid (fun h => trnK_skip HL.out hkb h)
      rw [hx, hy] at HS
      rw [hy] at HK cs
      rw [hx] at co
      have HX := Lib.hid hx
      have HY := Lib.hid hy
      clear hcell hx hy hm hkb hks
      by_cases h0 : y = 0
      · have hy0 : ((y.toNat : Int) == 0) = true := by rw [Bv_zero]; simp [h0]
        have HM2 := Lib.hid (HM1.out)
        have H0 := Lib.hid h0
        clear h0 co fr ST SC BX
        go_wp2_with fail
        go_roundg (n - (k + 1))
        case measure => exact meas hk hlt
        case rel => exact ⟨k + 1, meas2 hlt, by go_num, ⟨by
          rw [← HK.out H0.out]
          exact HM2.out⟩⟩
      · have hy0 : ((y.toNat : Int) == 0) = false := by rw [Bv_zero]; simp [h0]
        clear h0
        go_upto_region 6 with fail
        have cs2 : wr.cell? ⟨b0, o0 + k, none⟩ = some (Bv y) := cs
        clear cs hy0
        go_region
        go_wp2_with fail
        go_roundg (n - (k + 1))
        case measure => exact meas hk hlt
        case rel => exact ⟨k + 1, meas2 hlt, by go_num, ⟨by
          have a := (HM1.out.rset [] k (Bv (x ^^^ y))).drew
          rw [show Bv (x ^^^ y) = .int .u8 ((x ^^^ y).toNat : Int) from rfl, ← by8_set, HS.out] at a
          exact a⟩⟩
    · obtain rfl : k = n := by omega
      have e1 := trnK_full HL.out
      rw [HN.out] at e1
      rw [e1] at hm
      have HM1 := Lib.hid hm
      clear hm e1
      go_wp2_with fail
      try rw [Exit.noGoto_ret]
      go_ret
      exact ⟨_, rfl, HM1.out.bel, HM1.out.row []⟩
end Go.Proofs.Ytiakgohipnbdbaa
