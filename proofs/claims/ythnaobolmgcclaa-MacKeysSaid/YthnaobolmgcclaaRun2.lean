/- Contracts of package digest: Copy, Len, Running.Sum, Sum. -/
import Derived.Test.YthnaobolmgcclaaRun1
import Derived.Test.YthnaobolmgcclaaClone
namespace Go.Proofs.Ythnaobolmgcclaa
set_option linter.unusedVariables false
open Go.RowKit

theorem info_run : (Try.prog.info? 67).map (·.size) = some 11 := by kernel_rfl
theorem rcells_size (st : Option (List UInt8)) (A : Option Addr) (c : Nat) : (rcells st A c).size = 11 := by
  show (hcs (hw st) (rtl st A c)).size = 11
  rw [hcs_size, hw_len]
  rfl
theorem rcells_one (st : Option (List UInt8)) (A : Option Addr) (c : Nat) : (rcells st A c).all (·.oneCell') = true := by
  rw [Array.all_eq_true_iff_forall_mem]
  intro v hv
  simp only [rcells, hcs, List.mem_toArray, List.mem_append, List.mem_map, rtl] at hv
  rcases hv with ⟨x, _, rfl⟩ | hv
  · rfl
  · simp only [List.mem_cons, List.not_mem_nil, or_false] at hv
    rcases hv with rfl | rfl | rfl <;> rfl
theorem rcells_left (st : Option (List UInt8)) (A : Option Addr) (c : Nat) : (rcells st A c)[9]? = some (.slice A (restA (told st)).length c) := by
  have := hcs_rest (hw st) (rtl st A c) 1
  rw [hw_len] at this
  exact this
theorem rcells_n (st : Option (List UInt8)) (A : Option Addr) (c : Nat) : (rcells st A c)[10]? = some (.int .i64 ((told st).length : Nat)) := by
  have := hcs_rest (hw st) (rtl st A c) 2
  rw [hw_len] at this
  exact this
theorem rcells_setL (st : Option (List UInt8)) (A A' : Option Addr) (c c' : Nat) : (rcells st A c).setIfInBounds 9 (.slice A' (restA (told st)).length c') = rcells st A' c' := by
  have := hcs_setR (hw st) (rtl st A c) 1 (.slice A' (restA (told st)).length c')
  rw [hw_len] at this
  exact this

theorem rlen_any (W0 w : World) (xb : Bl) (xr : List Ro) (g : Nat) (st : Option (List UInt8)) (x : Nat × TypeId × Array Value) (hr : List Ro) (hR : RunAt W0 g st x hr) (hm : Mst W0 w (x :: xb) xr) :
    Calls Try.prog 38 #[.pointer (some ⟨g, 0, none⟩)] w fun e w' => e = .returned (.int .i64 ((told st).length : Nat)) ∧ w = w' := by
  obtain ⟨A, c, rfl, _⟩ := hR
  have q := ((hm.blk []).cell 10).trans (rcells_n st A c)
  clear hm
  go_enter Try.func38, Try.ntmps38
  go_wp2
  go_ret
  exact ⟨rfl, rfl⟩

abbrev Z67 : Array Value := #[.int .u32 0, .int .u32 0, .int .u32 0, .int .u32 0, .int .u32 0, .int .u32 0, .int .u32 0, .int .u32 0, .bool false, .slice none 0 0, .int .i64 0]
theorem Z67_eq : Z67 = rcells none none 0 := rfl
/-- What Copy gives: one more, alike. -/
def CopyPost (W0 : World) (xb : Bl) (xr : List Ro) (st : Option (List UInt8)) (e : Ending) (w' : World) : Prop :=
  ∃ g' x' hr', e = .returned (.pointer (some ⟨g', 0, none⟩)) ∧ RunAt W0 g' st x' hr' ∧ Mst W0 w' (x' :: xb) (hr' ++ xr)
set_option maxRecDepth 100000 in
set_option maxHeartbeats 400000 in
theorem copy_any (W0 w : World) (xb : Bl) (xr : List Ro) (g : Nat) (st : Option (List UInt8)) (x : Nat × TypeId × Array Value) (hr : List Ro) (hR : RunAt W0 g st x hr) (hm : Mst W0 w (x :: xb) (hr ++ xr)) (hl : (told st).length ≤ 1000000) :
    Calls Try.prog 39 #[.pointer (some ⟨g, 0, none⟩)] w (CopyPost W0 (x :: xb) (hr ++ xr) st) := by
  obtain ⟨A, c, rfl, hs, hc1, hc2⟩ := hR
  have kb := hm.blk []
  have q9 := (kb.cell 9).trans (rcells_left st A c)
  have hgw := kb.lt
  obtain ⟨K, hK⟩ : ∃ K, rcells st A c = K := ⟨_, rfl⟩
  have L1 := Lib.hid (show w.rangeAt g 0 K.toList from kb.range fun j v hv => by
    rw [Nat.zero_add, hK]
    simpa using hv)
  have I1 := Lib.hid (show (Try.prog.info? 67).map (·.size) = some K.toList.length by rw [← hK, Array.length_toList, rcells_size]; exact info_run)
  have I2 := Lib.hid (show (Try.prog.info? 67).map (·.size) = some K.size by rw [← hK, rcells_size]; exact info_run)
  have O1 := Lib.hid (show K.all (·.oneCell') = true by rw [← hK]; exact rcells_one _ _ _)
  have S1 := Lib.hid (show Z67.size = K.size by rw [← hK, rcells_size]; rfl)
  have m1 := hm.new 67 Z67
  have K1 := Lib.hid (m1.blk [])
  have m2 := Mst.setRow (bl := []) [] m1 K
  have M2 := Lib.hid m2
  have HS := Lib.hid hs
  have HK := Lib.hid hK
  have E1 := Lib.hid (show K.toList.toArray = K by simp)
  obtain ⟨L, hL⟩ : ∃ L, restA (told st) = L := ⟨_, rfl⟩
  have hlL : L.length ≤ 1000000 := by rw [← hL, restA_len]; have := Nat.mod_le (told st).length 64; omega
  rw [hL] at hs q9 hc1
  have HL := Lib.hid hL
  have q9' : ((w.alloc (.cells Z67 67)).setRow w.heap.size K).cell? ⟨g, 9, none⟩ = some (.slice A L.length c) := by
    rw [(m2.blk [_]).cell 9, ← hL]
    exact rcells_left st A c
  have q9'' := q9'
  have f9 := (m2.blk []).fr 9
  clear hm kb m1 m2 hK hs hL
  go_enter Try.func39, Try.ntmps39
  go_wp2_with (first | refine wpList_load_mid rfl _ _ rfl g 0 rfl K.toList _ L1.out Try.underlying67 rfl I1.out ?_ | refine wpList_store_row rfl _ _ _ rfl w.heap.size K rfl (by rw [← E1.out]; rfl) 67 _ K1.out I2.out S1.out O1.out ?_)
  have hrb : RB ((w.alloc (.cells Z67 67)).setRow w.heap.size K) ((w.alloc (.cells Z67 67)).setRow w.heap.size K).heap.size A L := by
    have := HS.out
    rw [HL.out] at this
    exact M2.out.src (this.sub (fun x h => nomatch h) (fun y h => List.mem_append_left _ h))
  have HC := Lib.hid (clone_any A c L _ hrb hlL)
  clear hrb q9 q9' q9'' f9
  refine HC.out.mono ?_
  rintro e w2 ⟨v, rfl, hf⟩
  have m3 := M2.out.addr hf
  have k9 := ((m3.blk []).cell 9)
  have f9 := (m3.blk []).fr 9
  have k9' : (w2.cell? ⟨w.heap.size, 9, none⟩).isSome = true := by
    rw [k9, ← HK.out, rcells_left]
    rfl
  obtain ⟨old, hold⟩ := Option.isSome_iff_exists.1 k9'
  obtain ⟨A2, c2, rfl, _, hx1, hx2, _⟩ := own_form hf.own
  have hx3 : c2 ≤ 9223372036854775807 := by
    rcases hf.own.2 with ⟨e1, _⟩ | ⟨g', cap, cur, e1, _, _, _, hcap, _⟩
    · simp only [Value.slice.injEq] at e1
      omega
    · simp only [Value.slice.injEq] at e1
      unfold maxLen at hcap
      omega
  have m4 := m3.put [] 9 (.slice A2 L.length c2)
  rw [← HK.out, ← HL.out, rcells_setL] at m4
  have M4 := Lib.hid m4
  have R4 := Lib.hid (show RunAt W0 w.heap.size st (w.heap.size, 67, rcells st A2 c2) [⟨5, 1, .slice A2 L.length c2, L.length, by8 L⟩] from ⟨A2, c2, rfl, by
    rw [HL.out]
    exact (m3.sub (List.nil_sublist _) (List.Sublist.cons_cons _ (List.nil_sublist _))).rowSrc (List.mem_singleton_self _), by rw [HL.out]; exact hx2, hx3⟩)
  have LL := Lib.hid (show (restA (told st)).length = L.length by rw [HL.out])
  clear m3 m4 k9 k9' hf hc1
  go_wp2
  go_ret
  refine ⟨w.heap.size, _, _, rfl, R4.out, ?_⟩
  have := M4.out
  rw [HL.out] at this
  exact this

/-- What is put behind the bytes, with j zeros as yet. -/
def endZ (j : Nat) : List UInt8 := 128 :: List.replicate j 0
theorem endZ_len (j : Nat) : (endZ j).length = j + 1 := by simp [endZ]
theorem endZ_succ (j : Nat) : endZ j ++ [0] = endZ (j + 1) := by simp [endZ, List.replicate_succ']
def endL (n k : Nat) : List UInt8 := endZ (padZ n) ++ (be8 (n * 8)).take k
theorem endL_8 (n : Nat) : endL n 8 = padL n := by
  unfold endL padL endZ
  rw [List.take_of_length_le (by simp [be8])]
  rfl
theorem endL_succ (n k : Nat) (h : k < 8) : endL n k ++ [UInt8.ofNat ((n * 8) >>> (8 * (7 - k)))] = endL n (k + 1) := by
  unfold endL
  have hk : k < (be8 (n * 8)).length := by simpa [be8] using h
  rw [List.take_succ_eq_append_getElem hk, List.append_assoc]
  congr 2
  have h8 : k = 0 ∨ k = 1 ∨ k = 2 ∨ k = 3 ∨ k = 4 ∨ k = 5 ∨ k = 6 ∨ k = 7 := by omega
  rcases h8 with rfl | rfl | rfl | rfl | rfl | rfl | rfl | rfl <;> rfl
theorem padZ_lt (n : Nat) : padZ n < 64 := Nat.mod_lt _ (by decide)

theorem len_byte (n k : Nat) : ((n : Int) * 8 / 2 ^ (8 * (7 - k)) % 256) = ((UInt8.ofNat ((n * 8) >>> (8 * (7 - k)))).toNat : Int) := by
  rw [Nat.shiftRight_eq_div_pow]
  simp
theorem endL_len (n k : Nat) (hk : k ≤ 8) : (endL n k).length = padZ n + 1 + k := by
  simp [endL, endZ_len, be8]
  omega
structure SuR (W0 wr : World) (xb : Bl) (xr : List Ro) (x : Nat × TypeId × Array Value) (hr : List Ro) (v : Value) (l : List UInt8) : Prop where
  m : Mst W0 wr (x :: xb) (⟨5, 1, v, l.length, by8 l⟩ :: (hr ++ xr))
set_option maxRecDepth 100000 in
set_option maxHeartbeats 1000000 in
theorem rsum_any (W0 w : World) (xb : Bl) (xr : List Ro) (g : Nat) (st : Option (List UInt8)) (x : Nat × TypeId × Array Value) (hr : List Ro) (hR : RunAt W0 g st x hr) (hm : Mst W0 w (x :: xb) (hr ++ xr)) (hl : (told st).length ≤ 900000) :
    Calls Try.prog 37 #[.pointer (some ⟨g, 0, none⟩)] w fun e w' => e = .returned (.agg (b8a (sha (told st)))) ∧ Mst W0 w' (x :: xb) (hr ++ xr) := by
  have m1 := (hm.new 54 Y32).perm (List.Perm.swap _ _ _) (List.Perm.refl _)
  have HC := Lib.hid (copy_any W0 _ _ xr g st x hr hR m1 (by omega))
  have hR' := hR
  obtain ⟨A, c, rfl, hs, hc1, hc2⟩ := hR
  have HG := Lib.hid (show g < w.heap.size from (hm.blk []).lt)
  obtain ⟨T, hT⟩ : ∃ T, told st = T := ⟨_, rfl⟩
  have HT := Lib.hid hT
  rw [hT] at hl
  clear hm m1 hs hT
  go_enter Try.func37, Try.ntmps37
  go_wp2_with fail
  refine HC.out.mono ?_
  rintro e w1 ⟨g1, x1, hr1, rfl, hR1, m1⟩
  have HA := Lib.hid (add_any W0 w1 _ _ g1 st ⟨x1, hr1, hR1, m1⟩ none 0 [] (SPts.nil_ _ _ _ _) (by simp) (by rw [HT.out]; simp [catP]; omega))
  clear hR1 m1
  go_wp2_with fail
  refine HA.out.mono ?_
  rintro e w2 ⟨rfl, x2, hr2, hR2, m2⟩
  rw [show told st ++ catP [] = T by rw [HT.out]; simp [catP]] at hR2
  go_upto_region 5 with fail
  obtain ⟨n, hn⟩ : ∃ n, T.length = n := ⟨_, rfl⟩
  rw [hn] at hl
  have HN := Lib.hid hn
  obtain ⟨A2, c2, rfl, hs2, hc3, hc4⟩ := hR2
  have m3 := m2.newrow 5 1 1 1 #[.int .u8 128] (Nat.le_refl _) (by decide) rfl
  have T0 := Lib.hid (show SuR W0 (w2.alloc (.cells #[.int .u8 128] 5)) _ (hr ++ xr) (g1, 67, rcells (some T) A2 c2) hr2 (.slice (some ⟨w2.heap.size, 0, none⟩) 1 1) (endZ 0) from ⟨m3⟩)
  obtain ⟨R, hRR⟩ : ∃ R, (restA T).length = R := ⟨_, rfl⟩
  have HRR := Lib.hid (show R = n % 64 by rw [← hRR, restA_len, hn])
  have hq9 : (rcells (some T) A2 c2)[9]? = some (.slice A2 R c2) := by rw [← hRR]; exact rcells_left (some T) A2 c2
  have HQ9 := Lib.hid hq9
  have HS2 := Lib.hid hs2
  have r0 : (0 : Int) ≤ R := by omega
  have r1 : (R : Int) ≤ 63 := by have := HRR.out; omega
  clear hn m2 m3 hRR hq9 hs2
  go_loopg [4] (padZ n) (fun gk s4 wr => ∃ j : Nat, j + gk = padZ n ∧ SuR W0 wr ((g, 67, rcells st A c) :: (w.heap.size, 54, Y32) :: xb) (hr ++ xr) (g1, 67, rcells (some T) A2 c2) hr2 s4 (endZ j))
  case atStart => exact ⟨0, by omega, T0.out⟩
  case round =>
    obtain ⟨j, hj, ⟨hm⟩⟩ := hrel
    obtain ⟨A4, c4, rfl, _, hx1, hx2, _⟩ := own_form (hm.row [])
    have q9 := ((hm.blk []).cell 9).trans HQ9.out
    have hpz := padZ_lt n
    rw [endZ_len] at hm hx1 hx2 ⊢
    have j0 : (0 : Int) ≤ j := by omega
    have j1 : (j : Int) ≤ 63 := by omega
    have HM := Lib.hid hm
    have HP := Lib.hid (show padZ n = (119 - n % 64) % 64 from rfl)
    by_cases hlt : j < padZ n
    · have ht : (((R : Int) + ((j + 1 : Nat) : Int) + 8) % 64 != 0) = true := by
        have := HRR.out
        have h2 := HP.out
        simp only [bne_iff_ne, ne_eq]
        omega
      clear hm hpz
      go_wp2_with (at_builtin; refine wpList_appM rfl _ _ 26 rfl [] (Mst.alloc HM.out _) el_u8c rfl _ _ 1 1 [.int .u8 0] rfl (Rd.new1 _ #[.int .u8 0] _ rfl) (one1 _ rfl) (by unfold maxLen; omega) (by omega) ?_; intro A' c' w' s2; have S2 := Lib.hid s2; clear s2)
      go_roundg (padZ n - (j + 1))
      case measure => exact meas hj hlt
      case rel => exact ⟨j + 1, meas2 hlt, ⟨by
        have a := S2.out
        rw [show by8 (endZ j) ++ [Value.int .u8 0] = by8 (endZ (j + 1)) by rw [← endZ_succ, by8_append]; rfl] at a
        rw [endZ_len]
        exact a⟩⟩
    · obtain rfl : j = padZ n := by omega
      have ht : (((R : Int) + ((padZ n + 1 : Nat) : Int) + 8) % 64 != 0) = false := by
        have := HRR.out
        have h2 := HP.out
        simp only [bne_eq_false_iff_eq]
        omega
      clear hm hlt hj
      go_wp2_with fail
      have T1 := Lib.hid (show SuR W0 wr ((g, 67, rcells st A c) :: (w.heap.size, 54, Y32) :: xb) (hr ++ xr) (g1, 67, rcells (some T) A2 c2) hr2 (.slice A4 (padZ n + 1) c4) (endL n 0) from ⟨by
        have e0 : endL n 0 = endZ (padZ n) := by simp [endL]
        rw [e0, endZ_len]
        exact HM.out⟩)
      have hn0 : (0 : Int) ≤ n := by omega
      have hn1 : (n : Int) ≤ 900000 := by omega
      have ht2 : (((R : Int) + ((padZ n : Int) + 1) + 8) % 64 != 0) = false := by rw [← ht]; simp
      rw [ht2]
      clear HM hx1 hx2 q9 ht ht2 j0 j1 T0
      go_loopg [4, 5] 8 (fun gk s4 s5 wr => ∃ k : Nat, k + gk = 8 ∧ s5 = .int .i64 (7 - (k : Int)) ∧ SuR W0 wr ((g, 67, rcells st A c) :: (w.heap.size, 54, Y32) :: xb) (hr ++ xr) (g1, 67, rcells (some T) A2 c2) hr2 s4 (endL n k))
      case atStart => exact ⟨0, by omega, rfl, T1.out⟩
      case round =>
        obtain ⟨k, hk, rfl, ⟨hm⟩⟩ := hrel
        obtain ⟨A5, c5, rfl, _, hx1, hx2, _⟩ := own_form (hm.row [])
        have q10 : wr.cell? ⟨g, 10, none⟩ = some (.int .i64 (n : Int)) := by
          rw [(hm.blk [_]).cell 10, rcells_n, HT.out, HN.out]
        have hpz := padZ_lt n
        by_cases hlt : k < 8
        · have hE := endL_succ n k hlt
          rw [endL_len n k (by omega)] at hm hx1 hx2 ⊢
          have hv := len_byte n k
          obtain ⟨B, hB⟩ : ∃ B, UInt8.ofNat ((n * 8) >>> (8 * (7 - k))) = B := ⟨_, rfl⟩
          rw [hB] at hv hE
          have HV := Lib.hid hv
          have HE := Lib.hid hE
          have HM := Lib.hid hm
          have k0 : (0 : Int) ≤ 7 - (k : Int) := by omega
          have k1 : (7 : Int) - (k : Int) ≤ 7 := by omega
          clear hm hE hB hv
          go_wp2_with (at_builtin; refine wpList_appM rfl _ _ 26 rfl [] (Mst.alloc HM.out _) el_u8c rfl _ _ 1 1 [.int .u8 ((n : Int) * 8 / 2 ^ (8 * (7 - k)) % 256)] rfl (Rd.new1 _ #[.int .u8 ((n : Int) * 8 / 2 ^ (8 * (7 - k)) % 256)] _ rfl) (one1 _ rfl) (by unfold maxLen; omega) (by omega) ?_; intro A' c' w' s2; have S2 := Lib.hid s2; clear s2)
          go_roundg (8 - (k + 1))
          case measure => exact meas hk hlt
          case rel => exact ⟨k + 1, meas2 hlt, by go_num, ⟨by
            have a := S2.out
            rw [HV.out, show by8 (endL n k) ++ [Value.int .u8 (B.toNat : Int)] = by8 (endL n (k + 1)) by rw [← HE.out, by8_append]; rfl] at a
            rw [endL_len n (k + 1) (by omega)]
            exact a⟩⟩
        · obtain rfl : k = 8 := by omega
          rw [endL_8] at hm hx1 hx2 ⊢
          have hm1 := hm.newrow 26 1 1 1 #[.slice A5 (padL n).length c5] (Nat.le_refl _) (by decide) rfl
          have hpl : (padL n).length = padZ n + 9 := by rw [← endL_8, endL_len n 8 (by omega)]
          have M' := hm1.sub (List.sublist_cons_self _ _) (List.Sublist.cons_cons _ (List.Sublist.cons_cons _ (List.sublist_append_right hr2 (hr ++ xr))))
          have hps : SPts W0 ((g, 67, rcells st A c) :: (w.heap.size, 54, Y32) :: xb) (⟨26, 1, .slice (some ⟨wr.heap.size, 0, none⟩) 1 1, 1, [.slice A5 (padL n).length c5]⟩ :: ⟨5, 1, .slice A5 (padL n).length c5, (padL n).length, by8 (padL n)⟩ :: (hr ++ xr)) (some ⟨wr.heap.size, 0, none⟩) [⟨A5, c5, padL n⟩] := by
            refine ⟨M'.rowSrc (List.mem_cons_self ..), fun p hp => ?_⟩
            obtain rfl : p = ⟨A5, c5, padL n⟩ := by simpa using hp
            exact M'.rowSrc (List.mem_cons_of_mem _ (List.mem_cons_self ..))
          have hm2 := hm1.perm (List.Perm.refl _) (List.perm_append_comm_assoc [_, _] hr2 (hr ++ xr))
          have HADD := Lib.hid (add_any W0 _ _ _ g1 (some T) ⟨_, hr2, ⟨A2, c2, rfl, HS2.out, hc3, hc4⟩, hm2⟩ _ 1 _ hps (by simp) (by simp only [told, Option.getD_some]; rw [HN.out]; simp [catP]; omega))
          have HT3 := Lib.hid (show told (some T) ++ catP [⟨A5, c5, padL n⟩] = T ++ padL n by simp [catP, told])
          clear hm hm1 hm2 M' hps hlt hk hpl
          go_wp2_with fail
          refine HADD.out.mono ?_
          rintro e w3 ⟨rfl, x3, hr3, hR3, m3⟩
          rw [HT3.out] at hR3
          obtain ⟨A6, c6, rfl, _⟩ := hR3
          have hO := out_any w3 g1 67 _ (shaA h0 (T ++ padL n)) (m3.blk [])
          have HO := Lib.hid hO
          have M3 := Lib.hid m3
          clear m3 hO
          go_wp2_with fail
          refine HO.out.mono ?_
          rintro e w4 ⟨rfl, hb4⟩
          have m4 := M3.out.below hb4
          obtain ⟨K, hK⟩ : ∃ K, outW (shaA h0 (T ++ padL n)) = K := ⟨_, rfl⟩
          have hKl : K.length = 32 := by rw [← hK]; rfl
          have HKs := Lib.hid (show sha (told st) = K by rw [HT.out, ← hK, ← HN.out]; rfl)
          rw [hK]
          have B4 := Lib.hid (m4.blk [_, _])
          have I4 := Lib.hid (show (Try.prog.info? 54).map (·.size) = some (b8a K).size by rw [b8a_size, hKl]; exact info_arr32)
          have S4 := Lib.hid (show Y32.size = (b8a K).size by rw [b8a_size, hKl]; rfl)
          have O4 := Lib.hid (b8a_one K)
          have m5 := Mst.setRow (bl := []) [_, _] m4 (b8a K)
          have M5 := Lib.hid m5
          clear hb4 m4 m5 hK hKl
          go_wp2_with (first | refine wpList_store_row rfl _ _ _ rfl w.heap.size (b8a K) rfl rfl 54 _ B4.out I4.out S4.out O4.out ?_)
          refine bodyPost_ret (results_cell_row rfl _ _ w.heap.size 54 _ (0, 0) _ rfl (setRow_heap _ _ _ _ _ _ B4.out) Try.underlying54 rfl I4.out) rfl ⟨by rw [HKs.out], ?_⟩
          exact (M5.out.sub (List.Sublist.cons _ (List.Sublist.cons_cons _ (List.sublist_cons_self _ _))) ((List.Sublist.cons _ (List.Sublist.cons _ (List.Sublist.refl _))).trans (List.sublist_append_right hr3 _)))
end Go.Proofs.Ythnaobolmgcclaa
