/- Contracts of package window, further: Taken. -/
import Derived.Test.YtidphalfafaniaaWinT
import Derived.Test.YtidphalfafaniaaOpen
namespace Go.Proofs.Ytidphalfafaniaa
set_option linter.unusedVariables false
open Go.RowKit

/-- How many of these are told ErrTwice. -/
def cntW (B C : Int) (S : Nat) (ns : List (Int × Int)) : Nat := (ns.filter fun x => lookV B C S x.1 x.2 == 8).length

theorem cntW_le (B C : Int) (S : Nat) (ns : List (Int × Int)) (k : Nat) : cntW B C S (ns.take k) ≤ k := by
  unfold cntW
  exact Nat.le_trans (List.length_filter_le _ _) (List.length_take_le _ _)
theorem cntW_yes {B C : Int} {S : Nat} {ns : List (Int × Int)} {k : Nat} {x : Int × Int} (hx : ns[k]? = some x) (h : (lookV B C S x.1 x.2 == 8) = true) : cntW B C S (ns.take (k + 1)) = cntW B C S (ns.take k) + 1 := by
  unfold cntW
  rw [List.take_add_one, hx, List.filter_append, List.length_append]
  simp only [Option.toList, List.filter_cons, h, if_true, List.filter_nil, List.length_singleton]
theorem cntW_no {B C : Int} {S : Nat} {ns : List (Int × Int)} {k : Nat} {x : Int × Int} (hx : ns[k]? = some x) (h : (lookV B C S x.1 x.2 == 8) = false) : cntW B C S (ns.take (k + 1)) = cntW B C S (ns.take k) := by
  unfold cntW
  rw [List.take_add_one, hx, List.filter_append, List.length_append]
  simp [h]

set_option maxHeartbeats 400000 in
theorem taken_any (g : Nat) (B C : Int) (S : Nat) (A : Option Addr) (cap : Nat) (ns : List (Int × Int)) (w : World) (hW : Bk w g 27 (wcs B C S)) (hS : winOk B C S) (hP : Prs w w.heap.size A ns) (hn : ns.length ≤ 1000000) :
    Calls Try.prog 21 #[.pointer (some ⟨g, 0, none⟩), .slice A ns.length cap] w fun e w' => e = .returned (.int .i64 (cntW B C S ns)) ∧ Below w.heap.size w w' := by
  have hg := hW.lt
  have HW := Lib.hid hW
  have HS := Lib.hid hS
  have HP := Lib.hid hP
  clear hW hS hP
  go_enter Try.func21, Try.ntmps21
  go_wp2
  go_loopw [5, 10] (fun s i wr => ∃ k : Nat, k ≤ ns.length ∧ i = .int .i64 k ∧ s = .int .i64 (cntW B C S (ns.take k)) ∧ Below w.heap.size w wr) (fun _ i _ => ns.length - (intOf i).toNat)
  case atStart => exact ⟨0, Nat.zero_le _, rfl, rfl, Below.refl _ _⟩
  case round =>
    obtain ⟨k, hk, rfl, rfl, hbel⟩ := hrel
    by_cases hlt : k < ns.length
    · obtain ⟨b, o, hA, hbB, hcell⟩ := HP.out.at_ (by omega)
      obtain ⟨x, hx⟩ : ∃ x, ns[k]? = some x := ⟨_, List.getElem?_eq_getElem hlt⟩
      obtain ⟨h0, h1⟩ := hcell k x hx
      clear hcell
      subst hA
      have e0 : wr.cell? ⟨b, o + k * 2, none⟩ = some (.int .i64 x.1) := (hbel.cell (p := ⟨b, _, none⟩) hbB).trans h0
      have e1 : wr.cell? ⟨b, o + k * 2 + 1, none⟩ = some (.int .i64 x.2) := (hbel.cell (p := ⟨b, _, none⟩) hbB).trans h1
      clear h0 h1
      have Hx := Lib.hid hx
      have HB := Lib.hid hbel
      clear hx hbel
      have hcl := cntW_le B C S ns k
      have hlen := hn
      go_wp2_with fail
      refine (look_any g B C S _ _ _ ((HW.out.below HB.out hg).alloc _) HS.out).mono ?_
      rintro e w1 ⟨rfl, hb⟩
      have hb2 : Below w.heap.size w w1 := (HB.out.alloc HB.out.size _).trans (hb.mono (by have := HB.out.size; simp; omega))
      have HB2 := Lib.hid hb2
      clear hb hb2 HB e0 e1
      by_cases h8 : lookV B C S x.1 x.2 = 8
      · have h8' : (lookV B C S x.1 x.2 == 8) = true := by simp [h8]
        have H := Lib.hid (cntW_yes Hx.out h8')
        clear h8
        go_wp2
        go_roundw
        case rel => exact ⟨k + 1, by omega, by go_num, by rw [H.out]; go_num, HB2.out⟩
        case measure => simp [intOf]; omega
      · have h8' : (lookV B C S x.1 x.2 == 8) = false := by simp [h8]
        have H := Lib.hid (cntW_no Hx.out h8')
        clear h8
        go_wp2
        go_roundw
        case rel => exact ⟨k + 1, by omega, by go_num, by rw [H.out], HB2.out⟩
        case measure => simp [intOf]; omega
    · have HB := Lib.hid hbel
      have e : k = ns.length := by omega
      subst e
      clear hbel hk
      go_wp2
      go_ret
      exact ⟨by rw [List.take_length]; rfl, HB.out⟩

set_option maxHeartbeats 400000 in
theorem taken_nil (b o cap : Nat) (x y : Int) (w : World) (h0 : w.cell? ⟨b, o, none⟩ = some (.int .i64 x)) (h1 : w.cell? ⟨b, o + 1, none⟩ = some (.int .i64 y)) (hlt : b < w.heap.size) :
    Calls Try.prog 21 #[.pointer none, .slice (some ⟨b, o, none⟩) 1 cap] w fun e w' => e = .returned (.int .i64 0) ∧ Below w.heap.size w w' := by
  go_enter Try.func21, Try.ntmps21
  go_wp2
  go_loopw [5, 10] (fun s i wr => ∃ k : Nat, k ≤ 1 ∧ i = .int .i64 k ∧ s = .int .i64 0 ∧ Below w.heap.size w wr) (fun _ i _ => 1 - (intOf i).toNat)
  case atStart => exact ⟨0, Nat.zero_le _, rfl, rfl, Below.refl _ _⟩
  case round =>
    obtain ⟨k, hk, rfl, rfl, hbel⟩ := hrel
    by_cases hlt' : k < 1
    · obtain rfl : k = 0 := by omega
      have e0 : wr.cell? ⟨b, o, none⟩ = some (.int .i64 x) := (hbel.cell (p := ⟨b, _, none⟩) hlt).trans h0
      have e1 : wr.cell? ⟨b, o + 1, none⟩ = some (.int .i64 y) := (hbel.cell (p := ⟨b, _, none⟩) hlt).trans h1
      have HB := Lib.hid hbel
      clear hbel
      go_wp2
      go_roundw
      case rel => exact ⟨1, by omega, by go_num, rfl, by repeat (first | exact HB.out | exact HB.out.alloc HB.out.size _ | apply Bdn | (refine Below.alloc ?_ (by have := HB.out.size; simp; omega) _))⟩
      case measure => simp [intOf]
    · obtain rfl : k = 1 := by omega
      have HB := Lib.hid hbel
      clear hbel
      go_wp2
      go_ret
      exact ⟨rfl, HB.out⟩
end Go.Proofs.Ytidphalfafaniaa
