/- Bytes as opaque values; the contract of mac.Equal. -/
import Derived.Test.YthnaobolmgcclaaSame
import Derived.Deep.RegionHeld3
namespace Go.Proofs.Ythnaobolmgcclaa
set_option linter.unusedVariables false
open Go.RowKit

/-- A byte as a value. -/
def Bv (x : UInt8) : Value := .int .u8 (x.toNat : Int)
theorem Bv_cells (x : UInt8) : (Bv x).cells = #[Bv x] := rfl
theorem Bv_eq (x : UInt8) : Value.int .u8 (x.toNat : Int) = Bv x := rfl
theorem by8_Bv (l : List UInt8) : by8 l = l.map Bv := rfl
section
variable {P : Program} (t : TypeId) (x y : UInt8) (w : World)
theorem Bv_bv : BitVec.ofInt IntKind.u8.bits (x.toNat : Int) = x.toBitVec := by
  show BitVec.ofInt 8 (x.toNat : Int) = x.toBitVec
  rw [BitVec.ofInt_natCast]
  simp
theorem Bv_wr : IntKind.u8.wrap (x.toNat : Int) = (x.toNat : Int) := by
  have := x.toNat_lt
  simp [IntKind.wrap, IntKind.signed, IntKind.bits]
  omega
theorem Bv_xor : (binOp .xor t (Bv x) (Bv y)).run P w = .ok (Bv (x ^^^ y)) w := by
  simp only [binOp, Bv, Op.intBits, ne_eq, not_true, if_false, Bv_bv, Sem.run_pure]
  exact congrArg (fun z => Result.ok (Value.int .u8 z) w) (Bv_wr (x ^^^ y))
theorem Bv_or : (binOp .or t (Bv x) (Bv y)).run P w = .ok (Bv (x ||| y)) w := by
  simp only [binOp, Bv, Op.intBits, ne_eq, not_true, if_false, Bv_bv, Sem.run_pure]
  exact congrArg (fun z => Result.ok (Value.int .u8 z) w) (Bv_wr (x ||| y))
theorem Bv_store (p : Addr) (hc : (w.cell? p).isSome = true) (hf : w.frozen? p = false) : (store p (Bv x)).run P w = .ok () (w.setCell p (Bv x)) := by
  obtain ⟨old, ho⟩ := Option.isSome_iff_exists.1 hc
  simp only [run_store P w _ (Bv x) _ rfl, ho]
  simp [hf]
theorem Bv_zero : ((x.toNat : Int) == 0) = decide (x = 0) := by
  rw [Bool.eq_iff_iff]
  simp only [beq_iff_eq, decide_eq_true_eq]
  constructor
  · intro h
    exact UInt8.toNat_inj.1 (by simpa using h)
  · rintro rfl; rfl
end

/-- In how far two lists of bytes differ. -/
def orK (l l' : List UInt8) : Nat → UInt8
  | 0 => 0
  | k + 1 => orK l l' k ||| (l.getD k 0 ^^^ l'.getD k 0)
theorem orK_zero (l l' : List UInt8) : ∀ k, orK l l' k = 0 ↔ ∀ j, j < k → l.getD j 0 = l'.getD j 0
  | 0 => by simp [orK]
  | k + 1 => by
    rw [orK, UInt8.or_eq_zero_iff, UInt8.xor_eq_zero_iff, orK_zero l l' k]
    constructor
    · rintro ⟨h1, h2⟩ j hj
      rcases Nat.lt_or_ge j k with h | h
      · exact h1 j h
      · obtain rfl : j = k := by omega
        exact h2
    · exact fun h => ⟨fun j hj => h j (by omega), h k (by omega)⟩
theorem orK_eq (l l' : List UInt8) (h : l.length = l'.length) : decide (orK l l' l.length = 0) = decide (l = l') := by
  rw [Bool.eq_iff_iff]
  simp only [decide_eq_true_eq, orK_zero]
  constructor
  · intro h1
    refine List.ext_getElem h fun j h2 h3 => ?_
    have := h1 j h2
    rw [List.getD_eq_getElem?_getD, List.getD_eq_getElem?_getD, List.getElem?_eq_getElem h2, List.getElem?_eq_getElem h3] at this
    exact this
  · rintro rfl j _; rfl
theorem getD_at {l : List UInt8} {k : Nat} (h : k < l.length) : l[k]? = some (l.getD k 0) := by
  rw [List.getD_eq_getElem?_getD, List.getElem?_eq_getElem h]; rfl

set_option maxHeartbeats 1000000 in
theorem equal2_any (A A' : Option Addr) (c c' : Nat) (l l' : List UInt8) (w : World) (hl : RB w w.heap.size A l) (hl' : RB w w.heap.size A' l') (hn : l.length ≤ maxLen) :
    Calls Try.prog 48 #[.slice A l.length c, .slice A' l'.length c'] w fun e w' => e = .returned (.bool (decide (l = l'))) ∧ Below w.heap.size w w' := by
  unfold maxLen at hn
  by_cases hlen : l.length = l'.length
  · rw [← orK_eq l l' hlen]
    obtain ⟨n, hN⟩ : ∃ n, l.length = n := ⟨_, rfl⟩
    have H1 := Lib.hid hl
    have H2 := Lib.hid hl'
    have HN := Lib.hid hN
    have HN' := Lib.hid (hlen.symm.trans hN)
    rw [← hlen, hN] at ⊢
    rw [hN] at hn
    clear hl hl' hN hlen
    have BX := fun x y w => Bv_xor (P := Try.prog) 5 x y w
    have BO := fun x y w => Bv_or (P := Try.prog) 5 x y w
    go_enter Try.func48, Try.ntmps48
    go_wp2_with fail
    go_loopg [14, 5] n (fun g s14 s5 wr => ∃ k : Nat, k + g = n ∧ s14 = .int .i64 k ∧ s5 = Bv (orK l l' k) ∧ Below w.heap.size w wr)
    case atStart => exact ⟨0, by omega, rfl, rfl, Below.refl _ _⟩
    case round =>
      obtain ⟨k, hk, rfl, rfl, hb⟩ := hrel
      by_cases hlt : k < n
      · have hq := HN.out
        have hq' := HN'.out
        obtain ⟨b, o, hA, hbB, hc⟩ := H1.out.at_ (by omega)
        obtain ⟨b', o', hA', hbB', hc'⟩ := H2.out.at_ (by omega)
        have e0 : wr.cell? ⟨b, o + k, none⟩ = some (Bv (l.getD k 0)) := (hb.cell (p := ⟨b, _, none⟩) hbB).trans (hc k _ (getD_at (by omega)))
        have e1 : wr.cell? ⟨b', o' + k, none⟩ = some (Bv (l'.getD k 0)) := (hb.cell (p := ⟨b', _, none⟩) hbB').trans (hc' k _ (getD_at (by omega)))
        have HB := Lib.hid hb
        have HO := Lib.hid (show orK l l' k ||| (l.getD k 0 ^^^ l'.getD k 0) = orK l l' (k + 1) from rfl)
        obtain ⟨x, hx⟩ : ∃ x, l.getD k 0 = x := ⟨_, rfl⟩
        obtain ⟨y, hy⟩ : ∃ x, l'.getD k 0 = x := ⟨_, rfl⟩
        obtain ⟨z, hz⟩ : ∃ x, orK l l' k = x := ⟨_, rfl⟩
        rw [hx, hy, hz] at HO
        rw [hx] at e0
        rw [hy] at e1
        rw [hz]
        clear hc hc' hb hq hq' hx hy hz
        subst hA hA'
        have i1 : (k : Int) < (n : Int) := by omega
        have i2 : (0 : Int) ≤ (k : Int) := by omega
        go_wp2_with fail
        go_quiet (fail)
        go_wp2_with fail
        go_roundg (n - (k + 1))
        case measure => exact meas hk hlt
        case rel => exact ⟨k + 1, meas2 hlt, by go_num, by rw [HO.out], Bdn HB.out _⟩
      · obtain rfl : k = n := by omega
        have HB := Lib.hid hb
        clear hb
        obtain ⟨z, hz⟩ : ∃ x, orK l l' k = x := ⟨_, rfl⟩
        have BZ := Bv_zero z
        rw [hz, show Bv z = .int .u8 (z.toNat : Int) from rfl]
        have HZ := Lib.hid hz
        clear hz
        go_wp2_with fail
        go_ret
        exact ⟨by rw [HZ.out]; rfl, HB.out⟩
  · have h2 : l ≠ l' := fun e => hlen (by rw [e])
    rw [decide_eq_false h2]
    have hne : ((l.length : Int) != (l'.length : Int)) = true := by rw [bne_iff_ne]; omega
    clear hl hl' h2 hlen
    go_enter Try.func48, Try.ntmps48
    go_wp2
    go_ret
    exact ⟨rfl, Below.refl _ _⟩
end Go.Proofs.Ythnaobolmgcclaa
