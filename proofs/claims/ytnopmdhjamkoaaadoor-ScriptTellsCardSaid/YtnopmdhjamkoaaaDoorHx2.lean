/- Contract of digest.Hex. -/
import Derived.Test.YtnopmdhjamkoaaaDoorHex1
import Derived.Test.YtnopmdhjamkoaaaDoorShaE
import Derived.Test.YtnopmdhjamkoaaaDoorShelfB
namespace Go.Proofs.YtnopmdhjamkoaaaDoor
set_option linter.unusedVariables false
open Go.RowKit

theorem hexL_take {l : List UInt8} {k : Nat} {b : UInt8} (h : l[k]? = some b) : hexL (l.take (k + 1)) = hexL (l.take k) ++ [sgn (b.toNat / 16)] ++ [sgn (b.toNat % 16)] := by
  have hk : k < l.length := (List.getElem?_eq_some_iff.1 h).1
  rw [List.take_succ_eq_append_getElem hk]
  rw [List.getElem?_eq_getElem hk] at h
  injection h with h
  rw [h]
  simp [hexL]
theorem hexL_len (l : List UInt8) : (hexL l).length = 2 * l.length := by
  induction l with
  | nil => rfl
  | cons b l ih => simp only [hexL, List.flatMap_cons, List.length_append, List.length_cons, List.length_nil] at ih ⊢; omega
abbrev signsB : ByteArray := ⟨#[48, 49, 50, 51, 52, 53, 54, 55, 56, 57, 97, 98, 99, 100, 101, 102]⟩
theorem sign_is (k : Nat) (h : k < 16) (h' : k < signsB.size) : signsB[k]'h' = sgn k := by
  have h16 : k = 0 ∨ k = 1 ∨ k = 2 ∨ k = 3 ∨ k = 4 ∨ k = 5 ∨ k = 6 ∨ k = 7 ∨ k = 8 ∨ k = 9 ∨ k = 10 ∨ k = 11 ∨ k = 12 ∨ k = 13 ∨ k = 14 ∨ k = 15 := by omega
  rcases h16 with rfl | rfl | rfl | rfl | rfl | rfl | rfl | rfl | rfl | rfl | rfl | rfl | rfl | rfl | rfl | rfl <;> rfl
set_option maxRecDepth 100000 in
set_option maxHeartbeats 400000 in
theorem hex_any (w : World) (A : Option Addr) (c : Nat) (l : List UInt8) (hr : RB w w.heap.size A l) (hl : l.length ≤ 1000) :
    Calls Tryd.prog 65 #[.slice A l.length c] w fun e w' => e = .returned (.string ⟨(hexL l).toArray⟩) ∧ Below w.heap.size w w' := by
  have m0 := ((Mst.start w).new 131 #[.pointer none, .slice none 0 0]).nilrow 5 1
  have T0 := Lib.hid (show BdX w _ [] [] w.heap.size (hexL (l.take 0)) from ⟨none, .slice none 0 0, .inl rfl, m0⟩)
  have HR := Lib.hid hr
  obtain ⟨n, hn⟩ : ∃ n, l.length = n := ⟨_, rfl⟩
  have HN := Lib.hid hn
  rw [hn] at hl ⊢
  clear m0 hr hn
  go_enter Tryd.func65, Tryd.ntmps65
  go_wp2_with fail
  go_loopg [8] n (fun gk s8 wr => ∃ k : Nat, k + gk = n ∧ s8 = .int .i64 k ∧ BdX w wr [] [] w.heap.size (hexL (l.take k)))
  case atStart => exact ⟨0, by omega, rfl, T0.out⟩
  case round =>
    obtain ⟨k, hk, rfl, hm⟩ := hrel
    by_cases hlt : k < n
    · obtain ⟨b, hb⟩ : ∃ b, l[k]? = some b := ⟨_, List.getElem?_eq_getElem (by have := HN.out; omega)⟩
      obtain ⟨g, o, rfl, hg, hc⟩ := HR.out.at_ (by have := HN.out; omega)
      have hbl : Below w.heap.size w wr := by obtain ⟨p, v, _, m⟩ := hm; exact m.bel
      have c0 := (hbl.cell (p := ⟨g, o + k, none⟩) hg).trans (hc k b hb)
      have hT := hexL_take hb
      have hlen : (hexL (l.take k)).length ≤ 4000 := by rw [hexL_len, List.length_take]; omega
      have b0 : (0 : Int) ≤ (b.toNat : Int) := by omega
      have b1 : (b.toNat : Int) ≤ 255 := by have := b.toNat_lt; omega
      have HB := Lib.hid hm
      have HT := Lib.hid hT
      clear hm hT hc hb hbl
      go_wp2_with fail
      refine (writeByte_any w wr [] [] _ _ HB.out _ (by omega)).mono ?_
      rintro e w1 ⟨rfl, m1⟩
      have M1 := Lib.hid m1
      clear m1
      go_wp2_with fail
      refine (writeByte_any w w1 [] [] _ _ M1.out _ (by rw [List.length_append]; simp only [List.length_cons, List.length_nil]; omega)).mono ?_
      rintro e w2 ⟨rfl, m2⟩
      have M2 := Lib.hid m2
      clear m2
      go_wp2
      go_roundg (n - (k + 1))
      case measure => exact meas hk hlt
      case rel => exact ⟨k + 1, meas2 hlt, by go_num, by
        have a := M2.out
        rw [sign_is _ (by omega), sign_is _ (by omega)] at a
        rw [HT.out]
        exact a⟩
    · obtain rfl : k = n := by omega
      have ht : l.take k = l := List.take_of_length_le (by have := HN.out; omega)
      rw [ht] at hm
      obtain ⟨p, v, hp, m⟩ := hm
      have hib : Lib.IsBuilder 131 5 w.heap.size w.heap.size (Lib.byteCells (hexL l)) wr := by
        have hB : Lib.BuilderAt 131 5 w.heap.size w.heap.size (.pointer p) (Lib.byteCells (hexL l)) wr :=
          ⟨Nat.le_refl _, v, m.blk [], by
            have := m.row []
            rw [← by8_length] at this
            exact this, m.ne _ (List.mem_cons_self ..) _ (List.mem_cons_self ..)⟩
        rcases hp with rfl | rfl
        · exact .inl hB
        · exact .inr hB
      have HS := Lib.hid (Tryd.Builder_String_any w.heap.size w.heap.size (hexL l) wr hib m.bel.size)
      have HB := Lib.hid m.bel
      clear m hib ht hlt hk
      go_wp2_with fail
      refine HS.out.mono ?_
      rintro e w3 ⟨rfl, hb3⟩
      have HB3 := Lib.hid (HB.out.trans hb3)
      clear hb3
      go_wp2
      go_ret
      exact ⟨rfl, HB3.out⟩
end Go.Proofs.YtnopmdhjamkoaaaDoor
