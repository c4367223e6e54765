/- Contracts of the document's Sign and Value, and of digest.Bytes. -/
import Derived.Test.YthnaobolmgcclaaHex2
import Derived.Deep.DeepCutAuto
namespace Go.Proofs.Ythnaobolmgcclaa
set_option linter.unusedVariables false
open Go.RowKit

theorem sgn_nat (n : Nat) (h : n < 16) : (sgn n).toNat = if n < 10 then 48 + n else 87 + n := by
  unfold sgn
  split <;> rw [UInt8.toNat_ofNat'] <;> omega
/-- What a sign stands for; -1: nothing. -/
def vI (c : UInt8) : Int := if 48 ≤ c.toNat ∧ c.toNat ≤ 57 then (c.toNat : Int) - 48 else if 97 ≤ c.toNat ∧ c.toNat ≤ 102 then (c.toNat : Int) - 87 else -1
theorem vI_sgn (n : Nat) (h : n < 16) : vI (sgn n) = n := by
  have := sgn_nat n h
  unfold vI
  rw [this]
  split <;> split <;> omega
theorem sgn_vI (c : UInt8) (h : 0 ≤ vI c) : sgn (vI c).toNat = c ∧ (vI c).toNat < 16 := by
  have h1 : ∀ n : Fin 256, 0 ≤ vI (UInt8.ofNat n.val) → sgn (vI (UInt8.ofNat n.val)).toNat = UInt8.ofNat n.val ∧ (vI (UInt8.ofNat n.val)).toNat < 16 := by decide +kernel
  have h2 := h1 ⟨c.toNat, c.toNat_lt⟩
  simp only [UInt8.ofNat_toNat] at h2
  exact h2 h
theorem vI_bound (c : UInt8) : -1 ≤ vI c ∧ vI c ≤ 15 := by
  unfold vI
  split
  · omega
  · split <;> omega
theorem vI_none (c : UInt8) (h : ∀ j, j < 16 → sgn j ≠ c) : vI c = -1 := by
  have hb := vI_bound c
  by_cases h0 : 0 ≤ vI c
  · obtain ⟨h1, h2⟩ := sgn_vI c h0
    exact absurd h1 (h _ h2)
  · omega
theorem index_vI (c : UInt8) : Lib.indexByte signsB.data.toList c = vI c := by
  have h : ∀ n : Fin 256, Lib.indexByte [48, 49, 50, 51, 52, 53, 54, 55, 56, 57, 97, 98, 99, 100, 101, 102] (UInt8.ofNat n.val) = vI (UInt8.ofNat n.val) := by decide +kernel
  have h2 := h ⟨c.toNat, c.toNat_lt⟩
  simp only [UInt8.ofNat_toNat] at h2
  exact h2

theorem sign_any (n : Nat) (h : n < 16) (w : World) : Calls Try.prog 44 #[.int .u8 (n : Int)] w fun e w' => e = .returned (.int .u8 ((sgn n).toNat : Int)) ∧ w' = w := by
  have hs := sgn_nat n h
  have i1 : (0 : Int) ≤ n := by omega
  have i2 : (n : Int) ≤ 15 := by omega
  by_cases h10 : n < 10
  · rw [if_pos h10] at hs
    have i3 : (n : Int) < 10 := by omega
    rw [hs]
    clear hs
    go_enter Try.func44, Try.ntmps44
    go_wp2
    go_ret
    exact ⟨by go_num, rfl⟩
  · rw [if_neg h10] at hs
    have i3 : ¬ (n : Int) < 10 := by omega
    rw [hs]
    clear hs
    go_enter Try.func44, Try.ntmps44
    go_wp2
    go_ret
    refine ⟨?_, rfl⟩
    show Ending.returned (Value.int IntKind.u8 (97 + (n : Int) - 10)) = _
    rw [show (97 : Int) + n - 10 = 87 + (n : Int) by omega]
set_option maxHeartbeats 1000000 in
theorem value_any (c : UInt8) (w : World) : Calls Try.prog 46 #[.int .u8 (c.toNat : Int)] w fun e w' => e = .returned (.int .i64 (vI c)) ∧ w' = w := by
  go_enter Try.func46, Try.ntmps46
  go_wp2_with fail
  go_loopg [3] 16 (fun gk s3 wr => ∃ k : Nat, k + gk = 16 ∧ s3 = .int .u8 k ∧ wr = w ∧ ∀ j, j < k → sgn j ≠ c)
  case atStart => exact ⟨0, by omega, rfl, rfl, by omega⟩
  case round =>
    obtain ⟨k, hk, rfl, rfl, hj⟩ := hrel
    have HJ := Lib.hid hj
    clear hj
    by_cases hlt : k < 16
    · have i1 : (k : Int) < 16 := by omega
      have i2 : (0 : Int) ≤ k := by omega
      by_cases hs : sgn k = c
      · have HV := Lib.hid (show vI c = (k : Int) by rw [← hs, vI_sgn k hlt])
        subst hs
        go_wp2_with fail
        refine (sign_any k hlt _).mono ?_
        rintro e w1 ⟨rfl, rfl⟩
        go_wp2
        go_ret
        exact ⟨by rw [HV.out]; rfl, rfl⟩
      · have hd : ((((sgn k).toNat : Int)) == ((c.toNat : Int))) = false := by
          rw [beq_eq_false_iff_ne]
          intro h
          exact hs (UInt8.toNat_inj.1 (by omega))
        have HS := Lib.hid hs
        clear hs
        go_wp2_with fail
        refine (sign_any k hlt _).mono ?_
        rintro e w1 ⟨rfl, rfl⟩
        go_wp2
        go_roundg (16 - (k + 1))
        case measure => exact meas hk hlt
        case rel => exact ⟨k + 1, meas2 hlt, by go_num, rfl, fun j hj => by
          rcases Nat.lt_or_ge j k with h1 | h1
          · exact HJ.out j h1
          · obtain rfl : j = k := by omega
            exact HS.out⟩
    · obtain rfl : k = 16 := by omega
      have HV := Lib.hid (vI_none c HJ.out)
      go_wp2
      go_ret
      exact ⟨by rw [HV.out]; rfl, rfl⟩

/-- The bytes of the first k pairs of signs. -/
def unL (s : List UInt8) (k : Nat) : List UInt8 := (List.range k).map fun i => UInt8.ofNat (16 * vI (s.getD (2 * i) 0) + vI (s.getD (2 * i + 1) 0)).toNat
theorem unL_len (s : List UInt8) (k : Nat) : (unL s k).length = k := by simp [unL]
theorem unL_succ (s : List UInt8) (k : Nat) : unL s (k + 1) = unL s k ++ [UInt8.ofNat (16 * vI (s.getD (2 * k) 0) + vI (s.getD (2 * k + 1) 0)).toNat] := by
  simp [unL, List.range_succ]
structure DbR (w wr : World) (s : List UInt8) (k : Nat) (v : Value) : Prop where
  m : Mst w wr [] [⟨5, 1, v, k, by8 (unL s k)⟩]
def okS (s : List UInt8) : Prop := s.length % 2 = 0 ∧ ∀ c ∈ s, 0 ≤ vI c
theorem strIx {B : ByteArray} {k : Nat} (h : k < B.size) : B[k]'h = B.data.toList.getD k 0 := by
  have h' : k < B.data.toList.length := by rw [Array.length_toList]; exact h
  have h2 : B.data.toList[k]? = some (B.data.toList[k]'h') := List.getElem?_eq_getElem h'
  rw [List.getD_eq_getElem?_getD, h2]
  rfl
theorem str_ix {B : ByteArray} {s : List UInt8} (hB : B.data.toList = s) {k : Nat} (hk : k < s.length) {i : Int} (hi : i = k) (w : World) :
    (Instr.index 9 (.string B) (.int .i64 i)).run Try.prog w = .ok (.int .u8 ((s.getD k 0).toNat : Int)) w := by
  subst hi
  have hsz : B.size = s.length := by rw [← hB, Array.length_toList]; rfl
  have hk2 : k < B.size := by omega
  rw [run_index_string w 9 B .i64 (k : Int) Try.underlying9, dif_pos (by omega)]
  have := strIx (B := B) (k := k) hk2
  rw [hB] at this
  simp only [Int.toNat_natCast]
  rw [this]
theorem index_any (c : UInt8) (x : Int) (hx : vI c = x) (w : World) : Calls Try.prog 88 #[.string signsB, .int .u8 (c.toNat : Int)] w fun e w' => e = .returned (.int .i64 x) ∧ w' = w := by
  have h := Try.strings_IndexByte signsB (c.toNat : Int) w
  rw [show ((c.toNat : Int).toNat).toUInt8 = c by simp, index_vI, hx] at h
  exact h
theorem pair_byte {x y : Int} (hx : 0 ≤ x) (hx' : x ≤ 15) (hy : 0 ≤ y) (hy' : y ≤ 15) : ((UInt8.ofNat (16 * x + y).toNat).toNat : Int) = 16 * x + y := by
  rw [UInt8.toNat_ofNat']
  omega
def DbPost (w : World) (s : List UInt8) (n : Nat) (e : Ending) (w' : World) : Prop :=
  ∃ v, (okS s → e = .returned (.tuple #[v, .int .i64 0]) ∧ Fresh w w' 5 1 v (n / 2) (by8 (unL s (n / 2)))) ∧ (¬ okS s → e = .returned (.tuple #[.slice none 0 0, .int .i64 3]) ∧ Below w.heap.size w w')
set_option maxRecDepth 100000 in
set_option maxHeartbeats 1000000 in
theorem dbytes_any (w : World) (B : ByteArray) (s : List UInt8) (hB : B.data.toList = s) (hl : s.length ≤ 100000) :
    Calls Try.prog 45 #[.string B] w (DbPost w s s.length) := by
  have hsz : B.size = s.length := by rw [← hB, Array.length_toList]; rfl
  obtain ⟨n, hn⟩ : ∃ n, s.length = n := ⟨_, rfl⟩
  rw [hn] at hsz hl ⊢
  have HN := Lib.hid hn
  have HB := Lib.hid hB
  clear hn hB
  by_cases h2 : n % 2 = 0
  · obtain ⟨m, rfl⟩ : ∃ m, n = 2 * m := ⟨n / 2, by omega⟩
    have i0 : ((2 * m : Nat) : Int) = 2 * (m : Int) := by omega
    have i1 : (2 * (m : Int)) % 2 = 0 := by omega
    have i2 : (0 : Int) ≤ m := by omega
    have i3 : (m : Int) ≤ 50000 := by omega
    have HM2 := Lib.hid (show 2 * m / 2 = m by omega)
    have HI := Lib.hid i0
    clear h2
    go_enter Try.func45, Try.ntmps45
    go_wp2_with fail
    go_loopg [5, 4] m (fun gk s5 s4 wr => ∃ k : Nat, k + gk = m ∧ s5 = .int .i64 (2 * (k : Int)) ∧ (∀ j, j < 2 * k → 0 ≤ vI (s.getD j 0)) ∧ DbR w wr s k s4)
    case atStart => exact ⟨0, by omega, rfl, by omega, ⟨(Mst.start w).nilrow _ _⟩⟩
    case round =>
      obtain ⟨k, hk, rfl, hj, ⟨hm⟩⟩ := hrel
      have HJ := Lib.hid hj
      have HM := Lib.hid hm
      clear hj hm
      by_cases hlt : k < m
      · have i4 : (k : Int) < m := by omega
        have i5 : (0 : Int) ≤ k := by omega
        have hx0 := fun w => str_ix HB.out (k := 2 * k) (by have := HN.out; omega) (i := 2 * (k : Int)) (by omega) w
        have hx1 := fun w => str_ix HB.out (k := 2 * k + 1) (by have := HN.out; omega) (i := 2 * (k : Int) + 1) (by omega) w
        obtain ⟨a, ha⟩ : ∃ a, s.getD (2 * k) 0 = a := ⟨_, rfl⟩
        obtain ⟨b, hb⟩ : ∃ b, s.getD (2 * k + 1) 0 = b := ⟨_, rfl⟩
        rw [ha] at hx0
        rw [hb] at hx1
        have HA := Lib.hid ha
        have HBb := Lib.hid hb
        clear ha hb
        obtain ⟨x, hx⟩ : ∃ x, vI a = x := ⟨_, rfl⟩
        obtain ⟨y, hy⟩ : ∃ y, vI b = y := ⟨_, rfl⟩
        have bx := vI_bound a
        have byy := vI_bound b
        rw [hx] at bx
        rw [hy] at byy
        obtain ⟨bx0, bx1⟩ := bx
        obtain ⟨by0, by1⟩ := byy
        have HIa := index_any a x hx
        have HIb := index_any b y hy
        have HX := Lib.hid hx
        have HY := Lib.hid hy
        clear hx hy
        by_cases hneg : x < 0 ∨ y < 0
        · have HNO : Hid (¬ okS s) := by
            rintro ⟨h1, h2⟩
            have hm1 : ∀ j, j < 2 * m → s.getD j 0 ∈ s := fun j hj => by
              have h' : j < s.length := by have := HN.out; omega
              rw [List.getD_eq_getElem?_getD, List.getElem?_eq_getElem h']
              exact List.getElem_mem _
            rcases hneg with h | h
            · have := h2 _ (hm1 (2 * k) (by omega))
              rw [HA.out, HX.out] at this
              omega
            · have := h2 _ (hm1 (2 * k + 1) (by omega))
              rw [HBb.out, HY.out] at this
              omega
          go_wp2_with fail
          go_quiet ((go_at_call 88; exact Calls.quiet_of_same (by first | exact HIa _ | exact HIb _)))
          by_cases hx0 : x < 0
          · go_wp2
            go_ret2
            exact ⟨.int .i64 0, fun h => absurd h HNO.out, fun _ => ⟨rfl, HM.out.bel.trans (Bdn (Below.refl _ _) _)⟩⟩
          · have hy0 : y < 0 := by omega
            go_wp2
            go_ret2
            exact ⟨.int .i64 0, fun h => absurd h HNO.out, fun _ => ⟨rfl, HM.out.bel.trans (Bdn (Below.refl _ _) _)⟩⟩
        · have hx0 : 0 ≤ x := by omega
          have hy0 : 0 ≤ y := by omega
          have HP := Lib.hid (pair_byte hx0 bx1 hy0 by1)
          have HU := Lib.hid (unL_succ s k)
          obtain ⟨A4, c4, rfl, -⟩ := own_form (HM.out.row [])
          clear hneg
          go_wp2_with fail
          go_quiet ((go_at_call 88; exact Calls.quiet_of_same (by first | exact HIa _ | exact HIb _)))
          go_wp2_with (at_builtin; refine wpList_appM rfl _ _ 26 rfl [] (Mst.alloc (HM.out.drewN nq) _) el_u8c rfl _ _ 1 1 [.int .u8 (16 * x + y)] rfl (Rd.new1 _ #[.int .u8 (16 * x + y)] _ rfl) (one1 _ rfl) (by unfold maxLen; omega) (by omega) ?_; intro A' c' w' s2; have S2 := Lib.hid s2; clear s2)
          go_roundg (m - (k + 1))
          case measure => exact meas hk hlt
          case rel => exact ⟨k + 1, meas2 hlt, by go_num, fun j hj => by
            rcases Nat.lt_or_ge j (2 * k) with h1 | h1
            · exact HJ.out j h1
            · rcases Nat.eq_or_lt_of_le h1 with rfl | h2
              · rw [HA.out, HX.out]; exact hx0
              · obtain rfl : j = 2 * k + 1 := by omega
                rw [HBb.out, HY.out]; exact hy0, ⟨by
            have a := S2.out
            rw [HU.out, HA.out, HBb.out, HX.out, HY.out, by8_append]
            rw [← HP.out] at a
            exact a⟩⟩
      · obtain rfl : k = m := by omega
        have HO : Hid (okS s) := ⟨by have := HN.out; omega, fun c hc => by
          obtain ⟨j, hj, rfl⟩ := List.mem_iff_getElem.1 hc
          have := HJ.out j (by have := HN.out; omega)
          rw [List.getD_eq_getElem?_getD, List.getElem?_eq_getElem hj] at this
          exact this⟩
        have i4 : ¬ ((k : Int) < k) := by omega
        go_wp2_with fail
        go_ret2
        exact ⟨_, fun _ => ⟨rfl, HM.out.bel, by rw [HM2.out]; exact HM.out.row []⟩, fun h => absurd HO.out h⟩
  · have i1 : (n : Int) % 2 = 1 := by omega
    have i2 : (0 : Int) ≤ n := by omega
    have i3 : (n : Int) ≤ 100000 := by omega
    have HO : Hid (¬ okS s) := fun h => h2 (by have := h.1; have := HN.out; omega)
    clear h2
    go_enter Try.func45, Try.ntmps45
    go_wp2
    go_ret2
    exact ⟨.int .i64 0, fun h => absurd h HO.out, fun _ => ⟨rfl, Below.refl _ _⟩⟩
end Go.Proofs.Ythnaobolmgcclaa
