/- Contracts of the document's digest: right, Sum. -/
import Derived.Test.YthnaobolmgcclaaRefD
import Derived.Test.YthnaobolmgcclaaRun2
namespace Go.Proofs.Ythnaobolmgcclaa
set_option linter.unusedVariables false
open Go.RowKit

theorem right_any (x : Wd) (r : Nat) (h0 : 0 < r) (h1 : r < 32) (w : World) :
    Calls Try.prog 80 #[W x, .int .i64 (r : Int)] w fun e w' => e = .returned (W (rr x r)) ∧ ∃ k, w' = w.drewN k := by
  have hB : ∀ w, (binOp .shr 56 (W x) (.int .i64 (r : Int))).run Try.prog w = .ok (W (x >>> r)) w := fun w => W_shr _ _ w _ _ (by omega)
  have hE : ∀ w, (binOp .shl 56 (W x) (.int .i64 (32 - (r : Int)))).run Try.prog w = .ok (W (x <<< (32 - r))) w := fun w => by
    rw [show (32 - (r : Int)) = ((32 - r : Nat) : Int) by omega]
    exact W_shl _ _ w _ _ (by omega)
  have hE' : ∀ w, (binOp .sub 3 (.int .i64 32) (.int .i64 (r : Int))).run Try.prog w = .ok (.int .i64 (32 - (r : Int))) w := fun w => by
    have : IntKind.i64.wrap (32 - (r : Int)) = 32 - (r : Int) := IntWalk.i64_in _ (by omega)
    go_simp
  have hF : ∀ w, (binOp .or 56 (W (x >>> r)) (W (x <<< (32 - r)))).run Try.prog w = .ok (W (rr x r)) w := fun w => by
    rw [W_or]; rfl
  have v1 : IntKind.i64.wrap (32 - (r : Int)) = 32 - (r : Int) := IntWalk.i64_in _ (by omega)
  have v2 : (0 : Int) ≤ r := by omega
  clear h0 h1
  go_enter Try.func80, Try.ntmps80
  go_wp2
  go_quiet (fail)
  go_wp2
  go_ret
  exact ⟨rfl, _, rfl⟩

theorem right_z (x : Wd) (z : Int) (h0 : 0 < z) (h1 : z < 32) (w : World) :
    Calls Try.prog 80 #[W x, .int .i64 z] w fun e w' => e = .returned (W (rr x z.toNat)) ∧ ∃ k, w' = w.drewN k := by
  have := right_any x z.toNat (by omega) (by omega) w
  rw [show ((z.toNat : Nat) : Int) = z by omega] at this
  exact this
/-- The padded bytes, so far. -/
def msgZ (l : List UInt8) (j : Nat) : List UInt8 := l ++ endZ j
def msgL (l : List UInt8) (k : Nat) : List UInt8 := l ++ endL l.length k
theorem msgZ_len (l : List UInt8) (j : Nat) : (msgZ l j).length = l.length + (j + 1) := by simp [msgZ, endZ_len]
theorem msgL_len (l : List UInt8) (k : Nat) (hk : k ≤ 8) : (msgL l k).length = l.length + (padZ l.length + 1 + k) := by simp [msgL, endL_len _ _ hk]
theorem msgL_8 (l : List UInt8) : msgL l 8 = l ++ padL l.length := by rw [msgL, endL_8]
theorem bits_byte (n k D : Nat) (hk : k < 8) (hD : 2 ^ (56 - 8 * k) = D) : (8 * (n : Int) / (D : Int) % 256) = ((UInt8.ofNat ((n * 8) >>> (8 * (7 - k)))).toNat : Int) := by
  rw [Nat.shiftRight_eq_div_pow, show 8 * (7 - k) = 56 - 8 * k by omega, hD]
  have e : 8 * (n : Int) / (D : Int) % 256 = ((8 * n / D % 256 : Nat) : Int) := by simp
  rw [e, Nat.mul_comm]
  simp
structure ReR (w wr : World) (KT : Array Value) (v : Value) (m : List UInt8) : Prop where
  m : Mst w wr [(w.heap.size + 1, 54, Y32), (w.heap.size, 60, KT)] [⟨5, 1, v, m.length, by8 m⟩]
/-- A word, byte by byte. -/
def wk (b : List UInt8) (i : Nat) : Nat → Wd
  | 0 => 0
  | j + 1 => 256 * wk b i j + BitVec.ofNat 32 (b.getD (i + j) 0).toNat
theorem wk_4 (b : List UInt8) (i : Nat) : wk b i 4 = wordB b i := by
  have h0 := (b.getD i 0).toNat_lt
  have h1 := (b.getD (i + 1) 0).toNat_lt
  have h2 := (b.getD (i + 2) 0).toNat_lt
  have h3 := (b.getD (i + 3) 0).toNat_lt
  unfold wordB wordOf
  simp only [wk, Nat.add_zero]
  generalize (b.getD i 0).toNat = p at h0 ⊢
  generalize (b.getD (i + 1) 0).toNat = q at h1 ⊢
  generalize (b.getD (i + 2) 0).toNat = r at h2 ⊢
  generalize (b.getD (i + 3) 0).toNat = s at h3 ⊢
  apply BitVec.eq_of_toNat_eq
  simp only [BitVec.toNat_add, BitVec.toNat_mul, BitVec.toNat_ofNat, show (256 : Wd).toNat = 256 from rfl, show (0 : Wd).toNat = 0 from rfl]
  omega
theorem W_mul256 {P : Program} (t : TypeId) (x : Wd) (w : World) : (binOp .mul t (.int .u32 256) (W x)).run P w = .ok (W (256 * x)) w := by
  have h : IntKind.u32.wrap (256 * (x.toNat : Int)) = (((256 : Wd) * x).toNat : Int) := by
    rw [wrap_u32, BitVec.toNat_mul]
    simp
  simp only [binOp, W, Op.intArith, ne_eq, not_true, if_false]
  simp only [h, Sem.run_pure]
theorem W_u8 (b : UInt8) (w : World) : (convert 5 56 (.int .u8 (b.toNat : Int))).run Try.prog w = .ok (W (BitVec.ofNat 32 b.toNat)) w := by
  have hb := b.toNat_lt
  have e : IntKind.u32.wrap (b.toNat : Int) = (BitVec.ofNat 32 b.toNat).toNat := by
    rw [wrap_u32, BitVec.toNat_ofNat]
    omega
  have : (convert 5 56 (.int .u8 (b.toNat : Int))).run Try.prog w = .ok (.int .u32 (IntKind.u32.wrap (b.toNat : Int))) w := by go_simp
  rw [this, e]
  rfl
theorem spL_at (l : List UInt8) {k : Nat} (h : k < 64) : (spL l k).set k 0 = spL l k := by
  unfold spL
  rw [List.set_append_right _ _ (by rw [spreadK_len]; omega), spreadK_len, Nat.sub_self, show 64 - k = (64 - (k + 1)) + 1 by omega, List.replicate_succ, List.set_cons_zero]
/-- Choose and most, otherwise said. -/
theorem ch_or (x y z : Wd) : (x &&& y) ||| ((x ^^^ 4294967295#32) &&& z) = chW x y z := by
  unfold chW
  apply BitVec.eq_of_getLsbD_eq
  intro i hi
  rw [show (4294967295#32 : Wd) = BitVec.allOnes 32 from by decide]
  simp only [BitVec.getLsbD_or, BitVec.getLsbD_and, BitVec.getLsbD_xor, BitVec.getLsbD_not, BitVec.getLsbD_allOnes, hi, decide_true, Bool.true_and]
  cases x.getLsbD i <;> cases y.getLsbD i <;> cases z.getLsbD i <;> rfl
theorem mj_or (x y z : Wd) : ((x &&& y) ||| (x &&& z)) ||| (y &&& z) = mjW x y z := by
  unfold mjW
  apply BitVec.eq_of_getLsbD_eq
  intro i hi
  simp only [BitVec.getLsbD_or, BitVec.getLsbD_and, BitVec.getLsbD_xor]
  cases x.getLsbD i <;> cases y.getLsbD i <;> cases z.getLsbD i <;> rfl
/-- (a structure: nobody looks into the equation) -/
structure SpEq (b : List UInt8) (ws : List Wd) : Prop where
  eq : spreadK b 64 = ws
structure ShEq (l : List UInt8) (s : H8) : Prop where
  eq : sha l = outW s
structure ShEq2 (l : List UInt8) (k : List UInt8) : Prop where
  eq : sha l = k
structure UpEq (l : List UInt8) (k : Nat) (b : UInt8) : Prop where
  eq : (upB l k).set k b = upB l (k + 1)
structure VEq (ws : List Wd) (st v : H8) : Prop where
  eq : roundsK ws st 64 = v
structure AdEq (s v : List Wd) (k : Nat) (x y : Wd) : Prop where
  eq : (adK s v k).set k (x + y) = adK s v (k + 1)
structure SfEq (m : List UInt8) (i : Nat) (s : H8) : Prop where
  eq : shaN h0 m i = s
/-- The state of the blocks' loop. -/
structure BlR (w wr : World) (KT : Array Value) (BH : Nat) (A : Option Addr) (c : Nat) (m : List UInt8) (st : H8) (xs : Bl) : Prop where
  m : Mst w wr (xs ++ [(BH, 58, Ws st.l), (w.heap.size + 1, 54, Y32), (w.heap.size, 60, KT)]) [⟨5, 1, .slice A m.length c, m.length, by8 m⟩]
theorem BlR.byte {w wr : World} {KT : Array Value} {BH bm om c : Nat} {m : List UInt8} {st : H8} {xs : Bl} (h : BlR w wr KT BH (some ⟨bm, om, none⟩) c m st xs) {k : Nat} (hk : k < m.length) :
    wr.cell? ⟨bm, om + k, none⟩ = some (.int .u8 ((m.getD k 0).toNat : Int)) := by
  obtain ⟨b, o, e, _, hc⟩ := (h.m.src (h.m.rowSrc (List.mem_singleton_self _))).2 (by omega)
  injection e with e
  injection e with e1 e2
  subst e1 e2
  exact hc _ _ (by8_getD hk)
theorem KT_k {j : Nat} (h : j < 64) : (Ws (kTab ++ h0.l))[j]? = some (W (kTab.getD j 0)) := by
  refine Ws_get ?_
  have h1 : j < kTab.length := h
  rw [List.getElem?_append_left h1, List.getElem?_eq_getElem h1, List.getD_eq_getElem?_getD, List.getElem?_eq_getElem h1]
  rfl
theorem out_byte (s : H8) (j : Nat) (h : j < 32) : (outW s)[j]? = some (UInt8.ofNat ((s.l.getD (j / 4) 0).toNat >>> (24 - 8 * (j % 4)))) := by
  have h1 := out_at s (j / 4) (by omega)
  have h4 : j % 4 = 0 ∨ j % 4 = 1 ∨ j % 4 = 2 ∨ j % 4 = 3 := by omega
  obtain ⟨a, b, c, d⟩ := h1
  rcases h4 with h4 | h4 | h4 | h4
  · rw [h4, ← a]; congr 1; omega
  · rw [h4, ← b]; congr 1; omega
  · rw [h4, ← c]; congr 1; omega
  · rw [h4]
    have e : (24 - 8 * 3) = 0 := rfl
    rw [e, Nat.shiftRight_zero, ← d]; congr 1; omega
theorem KT_h : (Ws (kTab ++ h0.l)).toList.drop 64 = h0.l.map W := rfl
theorem shaN_0 (s : H8) (l : List UInt8) : shaN s l 0 = s := rfl
/-- The last loop of a block. -/
structure AdL (w wr : World) (KT : Array Value) (BH BV BW : Nat) (A : Option Addr) (c : Nat) (m : List UInt8) (ws : List Wd) (s v : H8) (k : Nat) : Prop where
  m : Mst w wr [(BV, 58, Ws v.l), (BW, 57, Ws ws), (BH, 58, Ws (adK s.l v.l k)), (w.heap.size + 1, 54, Y32), (w.heap.size, 60, KT)] [⟨5, 1, .slice A m.length c, m.length, by8 m⟩]
/-- The loop that writes the bytes. -/
structure OuL (w wr : World) (KT : Array Value) (BH BO : Nat) (s : H8) (k : Nat) : Prop where
  m : Mst w wr [(BO, 54, b8a (upB (outW s) k)), (BH, 58, Ws s.l), (w.heap.size + 1, 54, Y32), (w.heap.size, 60, KT)] []
set_option maxRecDepth 1000000 in
set_option maxHeartbeats 8000000 in
theorem refsum_any (w : World) (A : Option Addr) (c : Nat) (l : List UInt8) (hr : RB w w.heap.size A l) (hl : l.length ≤ 900000) :
    Calls Try.prog 32 #[.agg (Ws (kTab ++ h0.l)), .slice A l.length c] w fun e w' => e = .returned (.agg (b8a (sha l))) ∧ Below w.heap.size w w' := by
  obtain ⟨KT, hKT⟩ : ∃ K, Ws (kTab ++ h0.l) = K := ⟨_, rfl⟩
  rw [hKT]
  have HKT := Lib.hid hKT
  have m0 := ((Mst.start w).new 60 KT).new 54 Y32
  rw [show (w.alloc (.cells KT 60)).heap.size = w.heap.size + 1 by simp] at m0
  have m1 := m0.newrow 5 1 0 0 #[] (Nat.le_refl _) (by decide) rfl
  have hz : ((w.alloc (.cells KT 60)).alloc (.cells Y32 54)).heap.size = w.heap.size + 1 + 1 := by simp
  have HR := Lib.hid (m1.oldRd hr)
  rw [hz] at m1
  have M1 := Lib.hid m1
  obtain ⟨n, hn⟩ : ∃ n, l.length = n := ⟨_, rfl⟩
  have HN := Lib.hid hn
  rw [hn] at HR hl ⊢
  clear hKT m0 m1 hr hn hz
  go_enter Try.func32, Try.ntmps32
  go_upto_region 2 with (at_builtin; first
    | (refine wpList_appM rfl _ _ 26 rfl [] M1.out el_u8c rfl _ A n c (by8 l) rfl HR.out (by8_one l) (by unfold maxLen; omega) (by omega) ?_; intro A2 c2 w2 s2; rw [Nat.zero_add] at s2; have S2 := Lib.hid s2; clear s2)
    | (refine wpList_appM rfl _ _ 26 rfl [] (Mst.alloc S2.out _) el_u8c rfl _ _ 1 1 [.int .u8 128] rfl (Rd.new1 _ #[.int .u8 128] _ rfl) (one1 _ rfl) (by unfold maxLen; omega) (by omega) ?_; intro A3 c3 w3 s3; have S3 := Lib.hid s3; clear s3))
  have T0 := Lib.hid (show ReR w w3 KT (.slice A3 (n + 1) c3) (msgZ l 0) from ⟨by
    rw [msgZ_len, HN.out]
    have e : by8 (msgZ l 0) = List.take (0 * 1) [] ++ by8 l ++ [Value.int .u8 128] := by simp [msgZ, endZ, by8]
    rw [e]
    exact S3.out⟩)
  clear S2 S3 M1 HR
  go_loopg [5] (padZ n) (fun gk s5 wr => ∃ j : Nat, j + gk = padZ n ∧ ReR w wr KT s5 (msgZ l j))
  case atStart => exact ⟨0, by omega, T0.out⟩
  case round =>
    obtain ⟨j, hj, ⟨hm⟩⟩ := hrel
    obtain ⟨A5, c5, rfl, -, hx1, hx2, -⟩ := own_form (hm.row [])
    rw [msgZ_len, HN.out] at hm hx1 hx2 ⊢
    have hpz := padZ_lt n
    have j0 : (0 : Int) ≤ j := by omega
    have j1 : (j : Int) ≤ 63 := by omega
    have n0 : (0 : Int) ≤ n := by omega
    have n1 : (n : Int) ≤ 900000 := by omega
    have HM := Lib.hid hm
    have HP := Lib.hid (show padZ n = (119 - n % 64) % 64 from rfl)
    by_cases hlt : j < padZ n
    · have ht : (((n : Int) + ((j : Int) + 1)) % 64 != 56) = true := by
        have h2 := HP.out
        simp only [bne_iff_ne, ne_eq]
        omega
      clear hm hpz
      go_wp2_with (at_builtin; refine wpList_appM rfl _ _ 26 rfl [] (Mst.alloc HM.out _) el_u8c rfl _ _ 1 1 [.int .u8 0] rfl (Rd.new1 _ #[.int .u8 0] _ rfl) (one1 _ rfl) (by unfold maxLen; omega) (by omega) ?_; intro A' c' w' s2; have S2 := Lib.hid s2; clear s2)
      go_roundg (padZ n - (j + 1))
      case measure => exact meas hj hlt
      case rel => exact ⟨j + 1, meas2 hlt, ⟨by
        have a := S2.out
        rw [show by8 (msgZ l j) ++ [Value.int .u8 0] = by8 (msgZ l (j + 1)) by rw [msgZ, msgZ, ← endZ_succ, by8_append, by8_append, by8_append, List.append_assoc]; rfl] at a
        rw [msgZ_len, HN.out]
        exact a⟩⟩
    · obtain rfl : j = padZ n := by omega
      have ht : (((n : Int) + ((padZ n : Int) + 1)) % 64 != 56) = false := by
        have h2 := HP.out
        simp only [bne_eq_false_iff_eq]
        omega
      clear hm hlt hj
      go_wp2_with fail
      have T1 := Lib.hid (show ReR w wr KT (.slice A5 (n + (padZ n + 1)) c5) (msgL l 0) from ⟨by
        rw [msgL_len l 0 (by omega), HN.out]
        have e0 : msgL l 0 = msgZ l (padZ n) := by rw [msgL, msgZ, endL, HN.out]; simp
        rw [e0]
        exact HM.out⟩)
      try rw [ht]
      clear HM hx1 hx2 ht j0 j1 T0
      go_loopg [5, 7] 8 (fun gk s5 s7 wr => ∃ k : Nat, k + gk = 8 ∧ s7 = .int .i64 k ∧ ReR w wr KT s5 (msgL l k))
      case atStart => exact ⟨0, by omega, rfl, T1.out⟩
      case round =>
        obtain ⟨k, hk, rfl, ⟨hm⟩⟩ := hrel
        obtain ⟨A6, c6, rfl, -, hx1, hx2, -⟩ := own_form (hm.row [])
        by_cases hlt : k < 8
        · rw [msgL_len l k (by omega), HN.out] at hm hx1 hx2 ⊢
          have hE := endL_succ n k hlt
          obtain ⟨D, hD⟩ : ∃ D, 2 ^ (56 - 8 * k) = D := ⟨_, rfl⟩
          have hv := bits_byte n k D hlt hD
          have hD0 : 0 < D := by rw [← hD]; exact Nat.pow_pos (by decide)
          have hD1 : D ≤ 72057594037927936 := by
            rw [← hD]
            have : 2 ^ (56 - 8 * k) ≤ 2 ^ 56 := Nat.pow_le_pow_right (by decide) (by omega)
            exact this
          have hS : IntKind.u64.wrap (2 ^ (56 - 8 * k)) = (D : Int) := by
            have : ((2 : Int) ^ (56 - 8 * k)) = ((2 ^ (56 - 8 * k) : Nat) : Int) := by simp
            rw [this, hD]
            exact IntWalk.u64_in _ (by omega)
          obtain ⟨B, hB⟩ : ∃ B, UInt8.ofNat ((n * 8) >>> (8 * (7 - k))) = B := ⟨_, rfl⟩
          rw [hB] at hv hE
          have HE := Lib.hid hE
          have HV := Lib.hid hv
          have HM := Lib.hid hm
          have k0 : (0 : Int) ≤ 56 - 8 * (k : Int) := by omega
          have k1 : (k : Int) ≤ 7 := by omega
          have d0 : (0 : Int) < D := by omega
          have d1 : (0 : Int) ≤ 8 * (n : Int) := by omega
          clear hm hE hB hv hD hD0 hD1
          go_wp2_with (at_builtin; refine wpList_appM rfl _ _ 26 rfl [] (Mst.alloc HM.out _) el_u8c rfl _ _ 1 1 [.int .u8 (8 * (n : Int) / (D : Int) % 256)] rfl (Rd.new1 _ #[.int .u8 (8 * (n : Int) / (D : Int) % 256)] _ rfl) (one1 _ rfl) (by unfold maxLen; omega) (by omega) ?_; intro A' c' w' s2; have S2 := Lib.hid s2; clear s2)
          go_roundg (8 - (k + 1))
          case measure => exact meas hk hlt
          case rel => exact ⟨k + 1, meas2 hlt, by go_num, ⟨by
            have a := S2.out
            rw [HV.out, show by8 (msgL l k) ++ [Value.int .u8 (B.toNat : Int)] = by8 (msgL l (k + 1)) by rw [msgL, msgL, by8_append, HN.out, ← HE.out, by8_append, by8_append, List.append_assoc]; rfl] at a
            rw [msgL_len l (k + 1) (by omega), HN.out]
            exact a⟩⟩
        · obtain rfl : k = 8 := by omega
          rw [msgL_8, HN.out] at hm hx1 hx2 ⊢
          obtain ⟨M, hM⟩ : ∃ M, l ++ padL n = M := ⟨_, rfl⟩
          have hML : M.length = n + padZ n + 9 := by rw [← hM, ← endL_8, List.length_append, endL_len n 8 (by omega), HN.out]; omega
          rw [hM] at hm hx1 hx2 ⊢
          obtain ⟨L, hL⟩ : ∃ L, M.length = L := ⟨_, rfl⟩
          rw [hL] at hm hx1 hx2 ⊢
          have HLn := Lib.hid (show L % 64 = 0 by have : padZ n = (119 - n % 64) % 64 := rfl; omega)
          have HLb := Lib.hid (show L ≤ 1000000 by omega)
          have HL0 := Lib.hid (show 0 < L by omega)
          have HL := Lib.hid hL
          have HMM := Lib.hid hM
          have hbK := hm.blk [_]
          have e64 : (KT.toList.drop 64) = h0.l.map W := by rw [← HKT.out]; exact KT_h
          have L1 := Lib.hid (show wr.rangeAt w.heap.size 64 (h0.l.map W) from hbK.range fun j v hv => by
            rw [← e64, List.getElem?_drop] at hv
            simpa using hv)
          have I1 := Lib.hid (show (Try.prog.info? 58).map (·.size) = some (h0.l.map W).length from info_h8a)
          obtain ⟨KH, hKH⟩ : ∃ K, Ws h0.l = K := ⟨_, rfl⟩
          have I2 := Lib.hid (show (Try.prog.info? 58).map (·.size) = some KH.size by rw [← hKH]; exact info_h8a)
          have O2 := Lib.hid (show KH.all (·.oneCell') = true by rw [← hKH]; exact Ws_one _)
          have S2 := Lib.hid (show Z8.size = KH.size by rw [← hKH]; rfl)
          have E2 := Lib.hid (show Value.agg (h0.l.map W).toArray = .agg KH by rw [← hKH]; rfl)
          have m1 := hm.new 58 Z8
          have B1 := Lib.hid (m1.blk [])
          have m2 := Mst.setRow (bl := []) [] m1 KH
          have T2 := Lib.hid (show BlR w ((wr.alloc (.cells Z8 58)).setRow wr.heap.size KH) KT wr.heap.size A6 c6 M h0 [] from ⟨by
            rw [hKH, hL]
            exact m2⟩)
          obtain ⟨HH, hHH⟩ : ∃ HH, h0.l.map W = HH := ⟨_, rfl⟩
          rw [hHH] at L1 I1 E2
          have l0 : (0 : Int) ≤ L := by omega
          have l1 : (L : Int) ≤ 1000000 := by omega
          clear hm hbK e64 m1 m2 hM hML hL hKH hHH T1 hlt hk
          go_upto_region 11 with (first | refine wpList_load_mid rfl _ _ rfl w.heap.size 64 rfl HH _ L1.out Try.underlying58 rfl I1.out ?_ | refine wpList_store_row rfl _ _ _ rfl wr.heap.size KH rfl (by rw [← E2.out]; rfl) 58 _ B1.out I2.out S2.out O2.out ?_)
          clear L1 I1 I2 O2 S2 E2 B1
          obtain ⟨BH, hBH⟩ : ∃ BH, wr.heap.size = BH := ⟨_, rfl⟩
          rw [hBH] at T2 ⊢
          clear hBH
          obtain ⟨bm, om, hA6, _⟩ := (T2.out.m.src (T2.out.m.rowSrc (List.mem_singleton_self _))).2 (by rw [HL.out]; exact HL0.out)
          rw [hA6] at T2 ⊢
          clear hA6
          go_loopg [9] (L / 64) (fun gk s9 wr => ∃ i : Nat, i + gk = L / 64 ∧ s9 = .int .i64 (64 * (i : Int)) ∧ BlR w wr KT BH (some ⟨bm, om, none⟩) c6 M (shaN h0 M i) [])
          case atStart => exact ⟨0, by omega, rfl, T2.out⟩
          case round =>
            obtain ⟨i, hi, rfl, hm⟩ := hrel
            by_cases hlt : i < L / 64
            · have hil : (64 : Int) * i < L := by omega
              have hil0 : (0 : Int) ≤ 64 * i := by omega
              have hil64 : (64 : Int) * i + 64 ≤ L := by omega
              obtain ⟨blk, hblk⟩ : ∃ b, (M.drop (64 * i)).take 64 = b := ⟨_, rfl⟩
              obtain ⟨st, hst⟩ : ∃ st, shaN h0 M i = st := ⟨_, rfl⟩
              have HNX := Lib.hid (show shaN h0 M (i + 1) = mixW st blk by rw [shaN_snoc, hst, hblk])
              have hbl : blk.length = 64 := by rw [← hblk]; simp only [List.length_take, List.length_drop]; have := HL.out; omega
              have HBL := Lib.hid hbl
              have HLT := Lib.hid hlt
              have HII := Lib.hid hi
              have HBK := Lib.hid hblk
              rw [hst] at hm
              have m1 := hm.m.new 57 Z64
              have B1 := Lib.hid (m1.blk [])
              have m2 := Mst.setRow (bl := []) [] m1 Z64
              have T3 := Lib.hid (show BlR w ((wr.alloc (.cells Z64 57)).setRow wr.heap.size Z64) KT BH (some ⟨bm, om, none⟩) c6 M st [(wr.heap.size, 57, Ws (spL blk 0))] from ⟨by
                rw [spL_0, zero64]
                exact m2⟩)
              have I1 := Lib.hid (show (Try.prog.info? 57).map (·.size) = some Z64.size from info_arr64)
              have O1 := Lib.hid (show Z64.all (·.oneCell') = true from by have := Ws_one (List.replicate 64 0); rw [zero64] at this; exact this)
              clear hm m1 m2 hblk hst hbl hlt hi
              go_upto_region 14 with (first | refine wpList_store_row rfl _ _ _ rfl wr.heap.size Z64 rfl rfl 57 _ B1.out I1.out rfl O1.out ?_)
              clear B1 I1 O1
              obtain ⟨BW, hBW⟩ : ∃ BW, wr.heap.size = BW := ⟨_, rfl⟩
              rw [hBW] at T3 ⊢
              clear hBW
              go_wp2_with fail
              go_loopg [11] 64 (fun gk s11 wr => ∃ k : Nat, k + gk = 64 ∧ s11 = .int .i64 k ∧ BlR w wr KT BH (some ⟨bm, om, none⟩) c6 M st [(BW, 57, Ws (spL blk k))])
              case atStart => exact ⟨0, by omega, rfl, T3.out⟩
              case round =>
                obtain ⟨k, hk, rfl, hm⟩ := hrel
                by_cases hltk : k < 64
                · have hk0 : (0 : Int) ≤ k := by omega
                  have hset := spL_set blk hltk
                  by_cases h16 : k < 16
                  · unfold spN at hset
                    rw [if_pos h16, ← wk_4] at hset
                    have hk16 : (k : Int) < 16 := by omega
                    have T4 := Lib.hid (show BlR w wr KT BH (some ⟨bm, om, none⟩) c6 M st [(BW, 57, Ws ((spL blk k).set k (wk blk (4 * k) 0)))] from by
                      rw [show wk blk (4 * k) 0 = 0 from rfl, spL_at blk hltk]
                      exact hm)
                    have HSET := Lib.hid hset
                    clear hm hset
                    go_wp2_with fail
                    go_loopg [12] 4 (fun gk s12 wr => ∃ j : Nat, j + gk = 4 ∧ s12 = .int .i64 j ∧ BlR w wr KT BH (some ⟨bm, om, none⟩) c6 M st [(BW, 57, Ws ((spL blk k).set k (wk blk (4 * k) j)))])
                    case atStart => exact ⟨0, by omega, rfl, T4.out⟩
                    case round =>
                      obtain ⟨j, hj, rfl, hm⟩ := hrel
                      by_cases hltj : j < 4
                      · obtain ⟨X, hX⟩ : ∃ X, wk blk (4 * k) j = X := ⟨_, rfl⟩
                        obtain ⟨Y, hY⟩ : ∃ Y, blk.getD (4 * k + j) 0 = Y := ⟨_, rfl⟩
                        have HS := Lib.hid (show wk blk (4 * k) (j + 1) = 256 * X + BitVec.ofNat 32 Y.toNat by rw [← hX, ← hY]; rfl)
                        rw [hX] at hm
                        have hlen : ((spL blk k).set k X).length = 64 := by rw [List.length_set, spL_len blk (by omega)]
                        have cw : wr.cell? ⟨BW, k, none⟩ = some (W X) := ((hm.m.blk []).cell k).trans (Ws_get (by rw [List.getElem?_set_self (by rw [spL_len blk (by omega)]; exact hltk)]))
                        have fw := (hm.m.blk []).fr k
                        have cm := hm.byte (k := 64 * i + 4 * k + j) (by have := HL.out; omega)
                        have hYm : M.getD (64 * i + 4 * k + j) 0 = Y := by
                          rw [← hY, ← HBK.out]
                          rw [List.getD_eq_getElem?_getD, List.getD_eq_getElem?_getD, List.getElem?_take, if_pos (by omega), List.getElem?_drop, Nat.add_assoc]
                        rw [hYm] at cm
                        have HM := Lib.hid hm
                        have j0 : (0 : Int) ≤ j := by omega
                        have v1 : IntKind.i64.wrap (4 * (k : Int)) = 4 * (k : Int) := IntWalk.i64_in _ (by omega)
                        have v2 : IntKind.i64.wrap (64 * (i : Int) + 4 * (k : Int)) = 64 * (i : Int) + 4 * (k : Int) := IntWalk.i64_in _ (by omega)
                        have v3 : IntKind.i64.wrap (64 * (i : Int) + 4 * (k : Int) + j) = 64 * (i : Int) + 4 * (k : Int) + j := IntWalk.i64_in _ (by omega)
                        have v4 : (0 : Int) ≤ 64 * (i : Int) + 4 * (k : Int) + j := by omega
                        have v5 : (64 * (i : Int) + 4 * (k : Int) + j) < L := by omega
                        have v6 : (64 * (i : Int) + 4 * (k : Int) + j).toNat = 64 * i + 4 * k + j := by omega
                        have ST := W_store (P := Try.prog)
                        have SC := fun x => (Value.cells.eq_def (W x)).symm.trans (W_cells x)
                        have AA := fun (a b : Wd) (w : World) => W_add (P := Try.prog) 56 a b w
                        have AM := fun (a : Wd) (w : World) => W_mul256 (P := Try.prog) 56 a w
                        have AB := W_u8 Y
                        clear hm hX hY hYm hlen
                        go_wp2
                        go_region
                        clear v1 v2 v3 v4 v5 v6 cm cw fw
                        go_wp2
                        go_roundg (4 - (j + 1))
                        case measure => exact meas hj hltj
                        case rel => exact ⟨j + 1, meas2 hltj, by go_num, ⟨by
                          have a := (HM.out.m.put [] k (W (256 * X + BitVec.ofNat 32 Y.toNat))).drew
                          rw [Ws_set, List.set_set, ← HS.out] at a
                          first | exact a | (rw [HS.out] at a ⊢; exact a)⟩⟩
                      · obtain rfl : j = 4 := by omega
                        rw [HSET.out] at hm
                        have HM := Lib.hid hm
                        clear hm hltj hj
                        go_wp2
                        go_roundg (64 - (k + 1))
                        case measure => exact meas hk hltk
                        case rel => exact ⟨k + 1, meas2 hltk, by go_num, HM.out⟩
                  · have kb := hm.m.blk []
                    have f3 := kb.fr k
                    have c3 : wr.cell? ⟨BW, k, none⟩ = some (W ((spL blk k).getD k 0)) := (kb.cell k).trans (Ws_getD (by rw [spL_len blk (by omega)]; exact hltk))
                    have gx : ∀ d, 0 < d → d ≤ k → wr.cell? ⟨BW, k - d, none⟩ = some (W ((spreadK blk k).getD (k - d) 0)) := fun d h0 h1 => (kb.cell (k - d)).trans (Ws_get (spL_get blk (by omega)))
                    have g15 := gx 15 (by omega) (by omega)
                    have g2 := gx 2 (by omega) (by omega)
                    have g16 := gx 16 (by omega) (by omega)
                    have g7 := gx 7 (by omega) (by omega)
                    unfold spN at hset
                    rw [if_neg h16] at hset
                    obtain ⟨x15, e15⟩ : ∃ x, (spreadK blk k).getD (k - 15) 0 = x := ⟨_, rfl⟩
                    obtain ⟨x2, e2⟩ : ∃ x, (spreadK blk k).getD (k - 2) 0 = x := ⟨_, rfl⟩
                    obtain ⟨x16, e16⟩ : ∃ x, (spreadK blk k).getD (k - 16) 0 = x := ⟨_, rfl⟩
                    obtain ⟨x7, e7⟩ : ∃ x, (spreadK blk k).getD (k - 7) 0 = x := ⟨_, rfl⟩
                    obtain ⟨xk, ek⟩ : ∃ x, (spL blk k).getD k 0 = x := ⟨_, rfl⟩
                    rw [e15] at g15 hset
                    rw [e2] at g2 hset
                    rw [e16] at g16 hset
                    rw [e7] at g7 hset
                    rw [ek] at c3
                    have n15 : ((k : Int) - 15).toNat = k - 15 := by omega
                    have n2 : ((k : Int) - 2).toNat = k - 2 := by omega
                    have n16 : ((k : Int) - 16).toNat = k - 16 := by omega
                    have n7 : ((k : Int) - 7).toNat = k - 7 := by omega
                    have p15 : 0 ≤ (k : Int) - 15 := by omega
                    have p2 : 0 ≤ (k : Int) - 2 := by omega
                    have p16 : 0 ≤ (k : Int) - 16 := by omega
                    have p7 : 0 ≤ (k : Int) - 7 := by omega
                    have l15 : (k : Int) - 15 < 64 := by omega
                    have l2 : (k : Int) - 2 < 64 := by omega
                    have l16 : (k : Int) - 16 < 64 := by omega
                    have l7 : (k : Int) - 7 < 64 := by omega
                    have v15 : IntKind.i64.wrap ((k : Int) - 15) = (k : Int) - 15 := IntWalk.i64_in _ (by omega)
                    have v2 : IntKind.i64.wrap ((k : Int) - 2) = (k : Int) - 2 := IntWalk.i64_in _ (by omega)
                    have v16 : IntKind.i64.wrap ((k : Int) - 16) = (k : Int) - 16 := IntWalk.i64_in _ (by omega)
                    have v7 : IntKind.i64.wrap ((k : Int) - 7) = (k : Int) - 7 := IntWalk.i64_in _ (by omega)
                    have HX := Lib.hid hset
                    have HM := Lib.hid hm
                    have ST := W_store (P := Try.prog)
                    have SC := fun x => (Value.cells.eq_def (W x)).symm.trans (W_cells x)
                    have AX := fun (a b : Wd) (w : World) => W_xor (P := Try.prog) 56 a b w
                    have AA := fun (a b : Wd) (w : World) => W_add (P := Try.prog) 56 a b w
                    have s3 : ∀ (x : Wd) (w : World), (binOp .shr 56 (W x) (.int .u64 3)).run Try.prog w = .ok (W (x >>> 3)) w := fun x w => W_shr 56 x w .u64 3 (by decide)
                    have s10 : ∀ (x : Wd) (w : World), (binOp .shr 56 (W x) (.int .u64 10)).run Try.prog w = .ok (W (x >>> 10)) w := fun x w => W_shr 56 x w .u64 10 (by decide)
                    clear hset e15 e2 e16 e7 ek kb hm gx
                    go_wp2
                    go_quiet ((go_at_call 80; exact Calls.quiet_of (right_z _ _ (by decide) (by decide) _)))
                    have HMq := Lib.hid (show Mst w (wr.drewN nq) _ _ from HM.out.m.drewN nq)
                    replace g2 : (wr.drewN nq).cell? ⟨BW, k - 2, none⟩ = some (W x2) := g2
                    replace g16 : (wr.drewN nq).cell? ⟨BW, k - 16, none⟩ = some (W x16) := g16
                    replace g7 : (wr.drewN nq).cell? ⟨BW, k - 7, none⟩ = some (W x7) := g7
                    replace c3 : (wr.drewN nq).cell? ⟨BW, k, none⟩ = some (W xk) := c3
                    replace f3 : (wr.drewN nq).frozen? ⟨BW, k, none⟩ = false := f3
                    clear g15
                    generalize wr.drewN nq = wq at HMq g2 g16 g7 c3 f3 ⊢
                    go_wp2
                    go_quiet ((go_at_call 80; exact Calls.quiet_of (right_z _ _ (by decide) (by decide) _)))
                    have HMp := Lib.hid (show Mst w (wq.drewN nq) _ _ from HMq.out.drewN nq)
                    replace g16 : (wq.drewN nq).cell? ⟨BW, k - 16, none⟩ = some (W x16) := g16
                    replace g7 : (wq.drewN nq).cell? ⟨BW, k - 7, none⟩ = some (W x7) := g7
                    replace c3 : (wq.drewN nq).cell? ⟨BW, k, none⟩ = some (W xk) := c3
                    replace f3 : (wq.drewN nq).frozen? ⟨BW, k, none⟩ = false := f3
                    clear g2 HMq
                    generalize wq.drewN nq = wp at HMp g16 g7 c3 f3 ⊢
                    go_wp2
                    go_region
                    clear n15 n2 n16 n7 p15 p2 p16 p7 l15 l2 l16 l7 v15 v2 v16 v7 g16 g7
                    go_wp2
                    go_roundg (64 - (k + 1))
                    case measure => exact meas hk hltk
                    case rel => exact ⟨k + 1, meas2 hltk, by go_num, ⟨by
                      have a := (HMp.out.put [] k (W (x16 + lsig0 x15 + x7 + lsig1 x2))).drew
                      rw [Ws_set, HX.out] at a
                      exact a⟩⟩
                · obtain rfl : k = 64 := by omega
                  rw [spL_64] at hm
                  obtain ⟨ws, hws⟩ : ∃ ws, spreadK blk 64 = ws := ⟨_, rfl⟩
                  have HWS : SpEq blk ws := ⟨hws⟩
                  have hwl : ws.length = 64 := by rw [← hws, spreadK_len]
                  rw [hws] at hm
                  have HWL := Lib.hid hwl
                  obtain ⟨KS, hKS⟩ : ∃ K, Ws st.l = K := ⟨_, rfl⟩
                  have L1 := Lib.hid (show wr.rangeAt BH 0 KS.toList from hKS ▸ (hm.m.blk [_]).rangeL)
                  have I1 := Lib.hid (show (Try.prog.info? 58).map (·.size) = some KS.toList.length by rw [← hKS]; exact info_h8a)
                  have I2 := Lib.hid (show (Try.prog.info? 58).map (·.size) = some KS.size by rw [← hKS]; exact info_h8a)
                  have S2 := Lib.hid (show Z8.size = KS.size by rw [← hKS]; rfl)
                  have O2 := Lib.hid (show KS.all (·.oneCell') = true by rw [← hKS]; exact Ws_one _)
                  have m1 := hm.m.new 58 Z8
                  have B1 := Lib.hid (m1.blk [])
                  have m2 := Mst.setRow (bl := []) [] m1 KS
                  have T5 := Lib.hid (show BlR w ((wr.alloc (.cells Z8 58)).setRow wr.heap.size KS) KT BH (some ⟨bm, om, none⟩) c6 M st [(wr.heap.size, 58, Ws (roundsK ws st 0).l), (BW, 57, Ws ws)] from ⟨by
                    rw [show Ws (roundsK ws st 0).l = KS from hKS]
                    exact m2⟩)
                  clear hm m1 m2 hws hwl hKS hltk hk T3
                  go_upto_region 26 with (first | refine wpList_load_mid rfl _ _ rfl BH 0 rfl KS.toList _ L1.out Try.underlying58 rfl I1.out ?_ | refine wpList_store_row rfl _ _ _ rfl wr.heap.size KS rfl rfl 58 _ B1.out I2.out S2.out O2.out ?_)
                  clear L1 I1 I2 O2 S2 B1
                  obtain ⟨BV, hBV⟩ : ∃ BV, wr.heap.size = BV := ⟨_, rfl⟩
                  rw [hBV] at T5 ⊢
                  clear hBV
                  go_wp2_with fail
                  go_loopg [16] 64 (fun gk s16 wr => ∃ k : Nat, k + gk = 64 ∧ s16 = .int .i64 k ∧ BlR w wr KT BH (some ⟨bm, om, none⟩) c6 M st [(BV, 58, Ws (roundsK ws st k).l), (BW, 57, Ws ws)])
                  case atStart => exact ⟨0, by omega, rfl, T5.out⟩
                  case round =>
                    obtain ⟨k, hk, rfl, hm⟩ := hrel
                    by_cases hltk : k < 64
                    · obtain ⟨sv, hsv⟩ : ∃ sv, roundsK ws st k = sv := ⟨_, rfl⟩
                      obtain ⟨x, hx⟩ : ∃ x, ws.getD k 0 = x := ⟨_, rfl⟩
                      obtain ⟨y, hy⟩ : ∃ y, kTab.getD k 0 = y := ⟨_, rfl⟩
                      have HX := Lib.hid (show roundsK ws st (k + 1) = round1 sv y x by rw [← hsv, ← hx, ← hy]; rfl)
                      have gX := Lib.hid (show (Ws ws)[k]? = some (W x) by rw [← hx]; exact Ws_getD (by rw [HWL.out]; exact hltk))
                      have gY := Lib.hid (show KT[k]? = some (W y) by rw [← hy, ← HKT.out]; exact KT_k hltk)
                      rw [hsv] at hm
                      obtain ⟨a, b, cc, d, e, f, gg, h⟩ := sv
                      have HM := Lib.hid hm.m
                      have q0 : wr.cell? ⟨BV, 0, none⟩ = some (W a) := (HM.out.blk []).cell 0
                      have q1 : wr.cell? ⟨BV, 1, none⟩ = some (W b) := (HM.out.blk []).cell 1
                      have q2 : wr.cell? ⟨BV, 2, none⟩ = some (W cc) := (HM.out.blk []).cell 2
                      have q3 : wr.cell? ⟨BV, 3, none⟩ = some (W d) := (HM.out.blk []).cell 3
                      have q4 : wr.cell? ⟨BV, 4, none⟩ = some (W e) := (HM.out.blk []).cell 4
                      have q5 : wr.cell? ⟨BV, 5, none⟩ = some (W f) := (HM.out.blk []).cell 5
                      have q6 : wr.cell? ⟨BV, 6, none⟩ = some (W gg) := (HM.out.blk []).cell 6
                      have q7 : wr.cell? ⟨BV, 7, none⟩ = some (W h) := (HM.out.blk []).cell 7
                      have AX := fun (a b : Wd) (w : World) => W_xor (P := Try.prog) 56 a b w
                      have AA := fun (a b : Wd) (w : World) => W_add (P := Try.prog) 56 a b w
                      have AN := fun (a b : Wd) (w : World) => W_and (P := Try.prog) 56 a b w
                      clear hm hsv hx hy
                      go_wp2
                      go_quiet ((go_at_call 80; exact Calls.quiet_of (right_z _ _ (by decide) (by decide) _)))
                      have HMq := Lib.hid (show Mst w (wr.drewN nq) _ _ from HM.out.drewN nq)
                      clear q0 q1 q2 q3 q4 q5 q6 q7
                      generalize wr.drewN nq = wq at HMq ⊢
                      have AC : ∀ w, (binOp .xor 56 (W e) (.int .u32 4294967295)).run Try.prog w = .ok (W (e ^^^ 4294967295#32)) w := fun w => W_xor (P := Try.prog) 56 e 4294967295#32 w
                      have AO1 : ∀ w, (binOp .or 56 (W (e &&& f)) (W ((e ^^^ 4294967295#32) &&& gg))).run Try.prog w = .ok (W (e &&& f ^^^ ~~~e &&& gg)) w := fun w => by
                        rw [W_or, ch_or]
                        rfl
                      have AO2 : ∀ w, (binOp .or 56 (W (a &&& b)) (W (a &&& cc))).run Try.prog w = .ok (W ((a &&& b) ||| (a &&& cc))) w := fun w => W_or 56 _ _ w
                      have AO3 : ∀ w, (binOp .or 56 (W ((a &&& b) ||| (a &&& cc))) (W (b &&& cc))).run Try.prog w = .ok (W (a &&& b ^^^ a &&& cc ^^^ b &&& cc)) w := fun w => by
                        rw [W_or, mj_or]
                        rfl
                      have q0 : wq.cell? ⟨BV, 0, none⟩ = some (W a) := (HMq.out.blk []).cell 0
                      have q1 : wq.cell? ⟨BV, 1, none⟩ = some (W b) := (HMq.out.blk []).cell 1
                      have q2 : wq.cell? ⟨BV, 2, none⟩ = some (W cc) := (HMq.out.blk []).cell 2
                      have q3 : wq.cell? ⟨BV, 3, none⟩ = some (W d) := (HMq.out.blk []).cell 3
                      have q4 : wq.cell? ⟨BV, 4, none⟩ = some (W e) := (HMq.out.blk []).cell 4
                      have q5 : wq.cell? ⟨BV, 5, none⟩ = some (W f) := (HMq.out.blk []).cell 5
                      have q6 : wq.cell? ⟨BV, 6, none⟩ = some (W gg) := (HMq.out.blk []).cell 6
                      have q7 : wq.cell? ⟨BV, 7, none⟩ = some (W h) := (HMq.out.blk []).cell 7
                      have gx : wq.cell? ⟨BW, k, none⟩ = some (W x) := ((HMq.out.blk [_]).cell k).trans gX.out
                      have gy : wq.cell? ⟨w.heap.size, k, none⟩ = some (W y) := ((HMq.out.blk [_, _, _, _]).cell k).trans gY.out
                      go_wp2
                      go_quiet (fail)
                      have HMp := Lib.hid (show Mst w (wq.drewN nq) _ _ from HMq.out.drewN nq)
                      clear q0 q1 q2 q3 q4 q5 q6 q7 gx gy
                      generalize wq.drewN nq = wp at HMp ⊢
                      have q0 : wp.cell? ⟨BV, 0, none⟩ = some (W a) := (HMp.out.blk []).cell 0
                      have q1 : wp.cell? ⟨BV, 1, none⟩ = some (W b) := (HMp.out.blk []).cell 1
                      have q2 : wp.cell? ⟨BV, 2, none⟩ = some (W cc) := (HMp.out.blk []).cell 2
                      have q3 : wp.cell? ⟨BV, 3, none⟩ = some (W d) := (HMp.out.blk []).cell 3
                      have q4 : wp.cell? ⟨BV, 4, none⟩ = some (W e) := (HMp.out.blk []).cell 4
                      have q5 : wp.cell? ⟨BV, 5, none⟩ = some (W f) := (HMp.out.blk []).cell 5
                      have q6 : wp.cell? ⟨BV, 6, none⟩ = some (W gg) := (HMp.out.blk []).cell 6
                      have q7 : wp.cell? ⟨BV, 7, none⟩ = some (W h) := (HMp.out.blk []).cell 7
                      go_wp2
                      go_quiet ((go_at_call 80; exact Calls.quiet_of (right_z _ _ (by decide) (by decide) _)))
                      have HMo := Lib.hid (show Mst w (wp.drewN nq) _ _ from HMp.out.drewN nq)
                      clear q0 q1 q2 q3 q4 q5 q6 q7
                      generalize wp.drewN nq = wo at HMo ⊢
                      have q0 : wo.cell? ⟨BV, 0, none⟩ = some (W a) := (HMo.out.blk []).cell 0
                      have q1 : wo.cell? ⟨BV, 1, none⟩ = some (W b) := (HMo.out.blk []).cell 1
                      have q2 : wo.cell? ⟨BV, 2, none⟩ = some (W cc) := (HMo.out.blk []).cell 2
                      have q3 : wo.cell? ⟨BV, 3, none⟩ = some (W d) := (HMo.out.blk []).cell 3
                      have q4 : wo.cell? ⟨BV, 4, none⟩ = some (W e) := (HMo.out.blk []).cell 4
                      have q5 : wo.cell? ⟨BV, 5, none⟩ = some (W f) := (HMo.out.blk []).cell 5
                      have q6 : wo.cell? ⟨BV, 6, none⟩ = some (W gg) := (HMo.out.blk []).cell 6
                      have q7 : wo.cell? ⟨BV, 7, none⟩ = some (W h) := (HMo.out.blk []).cell 7
                      have I8 := Lib.hid (show (Try.prog.info? 58).map (·.size) = some (rdA a b cc d e f gg h y x).size from info_h8a)
                      have S8 := Lib.hid (show (Ws (H8.l ⟨a, b, cc, d, e, f, gg, h⟩)).size = (rdA a b cc d e f gg h y x).size from rfl)
                      have O8 := Lib.hid (show (rdA a b cc d e f gg h y x).all (·.oneCell') = true by rw [← rdA_eq]; exact Ws_one _)
                      have B8 := Lib.hid (HMo.out.blk [])
                      have SC := fun x => (Value.cells.eq_def (W x)).symm.trans (W_cells x)
                      go_wp2_with (refine wpList_store_row rfl _ _ _ rfl BV (rdA a b cc d e f gg h y x) rfl rfl 58 _ B8.out I8.out S8.out O8.out ?_)
                      go_roundg (64 - (k + 1))
                      case measure => exact meas hk hltk
                      case rel => exact ⟨k + 1, meas2 hltk, by go_num, ⟨by
                        rw [HX.out, rdA_eq]
                        exact Mst.setRow (bl := []) [] HMo.out (rdA a b cc d e f gg h y x)⟩⟩
                    · obtain rfl : k = 64 := by omega
                      obtain ⟨v, hv⟩ : ∃ v, roundsK ws st 64 = v := ⟨_, rfl⟩
                      rw [hv] at hm
                      have HV : VEq ws st v := ⟨hv⟩
                      have T6 := Lib.hid (show AdL w wr KT BH BV BW (some ⟨bm, om, none⟩) c6 M ws st v 0 from ⟨by
                        rw [adK_0]
                        exact hm.m⟩)
                      clear hm hv hltk hk T5
                      go_wp2_with fail
                      go_loopg [23] 8 (fun gk s23 wr => ∃ k : Nat, k + gk = 8 ∧ s23 = .int .i64 k ∧ AdL w wr KT BH BV BW (some ⟨bm, om, none⟩) c6 M ws st v k)
                      case atStart => exact ⟨0, by omega, rfl, T6.out⟩
                      case round =>
                        obtain ⟨k, hk, rfl, ⟨hm⟩⟩ := hrel
                        by_cases hltk : k < 8
                        · obtain ⟨x, hx⟩ : ∃ x, st.l.getD k 0 = x := ⟨_, rfl⟩
                          obtain ⟨y, hy⟩ : ∃ y, v.l.getD k 0 = y := ⟨_, rfl⟩
                          have gx : wr.cell? ⟨BH, k, none⟩ = some (W x) := ((hm.blk [_, _]).cell k).trans (Ws_get (by rw [adK_get st.l v.l k rfl hltk, hx]))
                          have gy : wr.cell? ⟨BV, k, none⟩ = some (W y) := ((hm.blk []).cell k).trans (by rw [← hy]; exact Ws_getD hltk)
                          have fx := (hm.blk [_, _]).fr k
                          have HX : AdEq st.l v.l k x y := ⟨by rw [← hx, ← hy]; exact adK_set st.l v.l k rfl hltk⟩
                          have HM := Lib.hid hm
                          have AA := fun (a b : Wd) (w : World) => W_add (P := Try.prog) 56 a b w
                          have ST := W_store (P := Try.prog)
                          have SC := fun x => (Value.cells.eq_def (W x)).symm.trans (W_cells x)
                          clear hm hx hy
                          go_wp2
                          go_region
                          go_wp2
                          go_roundg (8 - (k + 1))
                          case measure => exact meas hk hltk
                          case rel => exact ⟨k + 1, meas2 hltk, by go_num, ⟨by
                            have a := (HM.out.put [_, _] k (W (x + y))).drew
                            rw [Ws_set, HX.eq] at a
                            exact a⟩⟩
                        · obtain rfl : k = 8 := by omega
                          have hB := hm
                          rw [adK_8] at hB
                          have HB := Lib.hid (show BlR w wr KT BH (some ⟨bm, om, none⟩) c6 M (shaN h0 M (i + 1)) [] from ⟨by
                            have e := HNX.out
                            rw [e]
                            unfold mixW
                            rw [HWS.eq, HV.eq]
                            exact hB.sub (List.Sublist.cons _ (List.Sublist.cons _ (List.Sublist.refl _))) (List.Sublist.refl _)⟩)
                          have e1 : IntKind.i64.wrap (64 * (i : Int) + 64) = 64 * (i : Int) + 64 := IntWalk.i64_in _ (by omega)
                          clear hm hB hltk hk
                          go_wp2
                          go_roundg (L / 64 - (i + 1))
                          case measure => exact meas HII.out HLT.out
                          case rel => exact ⟨i + 1, meas2 HLT.out, by go_num, HB.out⟩
            · have hie : i = L / 64 := by omega
              have hge : (L : Int) ≤ 64 * i := by have := HLn.out; omega
              obtain ⟨sf, hsf⟩ : ∃ s, shaN h0 M i = s := ⟨_, rfl⟩
              have HSF : SfEq M i sf := ⟨hsf⟩
              rw [hsf] at hm
              have HSH : ShEq l sf := ⟨by
                have e1 := HSF.eq
                rw [hie] at e1
                show outW (shaA h0 (l ++ padL l.length)) = outW sf
                rw [HN.out, HMM.out]
                unfold shaA
                rw [HL.out, e1]⟩
              have m0 := hm.m.sub (List.Sublist.refl _) (List.nil_sublist _)
              have m1 := m0.new 54 Y32
              have B1 := Lib.hid (m1.blk [])
              have m2 := Mst.setRow (bl := []) [] m1 Y32
              have T7 := Lib.hid (show OuL w ((wr.alloc (.cells Y32 54)).setRow wr.heap.size Y32) KT BH wr.heap.size sf 0 from ⟨by
                rw [zero32 _ (outW_len sf)]
                exact m2⟩)
              have I1 := Lib.hid (show (Try.prog.info? 54).map (·.size) = some Y32.size from info_arr32)
              have O1 := Lib.hid (show Y32.all (·.oneCell') = true from by have := b8a_one (upB (outW sf) 0); rw [zero32 _ (outW_len sf)] at this; exact this)
              clear hm m0 m1 m2 hsf hie hlt hi
              go_upto_region 41 with (first | refine wpList_store_row rfl _ _ _ rfl wr.heap.size Y32 rfl rfl 54 _ B1.out I1.out rfl O1.out ?_)
              clear B1 I1 O1
              obtain ⟨BO, hBO⟩ : ∃ BO, wr.heap.size = BO := ⟨_, rfl⟩
              rw [hBO] at T7 ⊢
              clear hBO
              go_wp2_with fail
              go_loopg [25] 32 (fun gk s25 wr => ∃ k : Nat, k + gk = 32 ∧ s25 = .int .i64 k ∧ OuL w wr KT BH BO sf k)
              case atStart => exact ⟨0, by omega, rfl, T7.out⟩
              case round =>
                obtain ⟨k, hk, rfl, ⟨hm⟩⟩ := hrel
                by_cases hltk : k < 32
                · have ho := out_byte sf k hltk
                  obtain ⟨x, hx⟩ : ∃ x, sf.l.getD (k / 4) 0 = x := ⟨_, rfl⟩
                  rw [hx] at ho
                  have gx : wr.cell? ⟨BH, k / 4, none⟩ = some (W x) := ((hm.blk [_]).cell (k / 4)).trans (by rw [← hx]; exact Ws_getD (by rw [H8.l_len]; omega))
                  have go' := ((hm.blk []).cell k).trans (b8a_get (by rw [upB_len _ (by rw [outW_len]; omega), outW_len]; exact hltk))
                  have fo := (hm.blk []).fr k
                  obtain ⟨Z, hZ⟩ : ∃ Z, (upB (outW sf) k).getD k 0 = Z := ⟨_, rfl⟩
                  rw [hZ] at go'
                  have hsr : ∀ w, (binOp .shr 56 (W x) (.int .i64 (24 - 8 * ((k : Int) % 4)))).run Try.prog w = .ok (W (x >>> (24 - 8 * (k % 4)))) w := fun w => by
                    rw [show (24 - 8 * ((k : Int) % 4)) = ((24 - 8 * (k % 4) : Nat) : Int) by omega]
                    exact W_shr _ _ w _ _ (by omega)
                  have hcv : ∀ w, (convert 56 5 (W (x >>> (24 - 8 * (k % 4))))).run Try.prog w = .ok (.int .u8 ((UInt8.ofNat (x.toNat >>> (24 - 8 * (k % 4)))).toNat : Int)) w := W_byteS x _
                  obtain ⟨Bt, hBt⟩ : ∃ B, UInt8.ofNat (x.toNat >>> (24 - 8 * (k % 4))) = B := ⟨_, rfl⟩
                  rw [hBt] at hcv ho
                  have HU : UpEq (outW sf) k Bt := ⟨upB_set _ ho⟩
                  have HM := Lib.hid hm
                  have k0 : (0 : Int) ≤ k := by omega
                  have k1 : (0 : Int) ≤ (k : Int) / 4 := by omega
                  have k2 : (k : Int) / 4 < 8 := by omega
                  have k3 : ((k : Int) / 4).toNat = k / 4 := by omega
                  have k4 : (0 : Int) ≤ (k : Int) % 4 := by omega
                  have k5 : (k : Int) % 4 ≤ 3 := by omega
                  clear hm ho hx hZ hBt
                  go_wp2
                  clear k1 k2 k3 k4 k5
                  go_roundg (32 - (k + 1))
                  case measure => exact meas hk hltk
                  case rel => exact ⟨k + 1, meas2 hltk, by go_num, ⟨by
                    have a := HM.out.put [] k (.int .u8 (Bt.toNat : Int))
                    rw [b8a_set, HU.eq] at a
                    exact a⟩⟩
                · obtain rfl : k = 32 := by omega
                  have e8 : upB (outW sf) 32 = outW sf := by unfold upB; rw [outW_len, List.take_of_length_le (by rw [outW_len]; omega)]; simp
                  rw [e8] at hm
                  obtain ⟨K, hK⟩ : ∃ K, outW sf = K := ⟨_, rfl⟩
                  have hKl : K.length = 32 := by rw [← hK]; rfl
                  rw [hK] at hm
                  have HSK : ShEq2 l K := ⟨by rw [HSH.eq, hK]⟩
                  have L1 := Lib.hid (show wr.rangeAt BO 0 (b8a K).toList from (hm.blk []).rangeL)
                  have I1 := Lib.hid (show (Try.prog.info? 54).map (·.size) = some (b8a K).toList.length by rw [Array.length_toList, b8a_size, hKl]; exact info_arr32)
                  have I2 := Lib.hid (show (Try.prog.info? 54).map (·.size) = some (b8a K).size by rw [b8a_size, hKl]; exact info_arr32)
                  have S2 := Lib.hid (show Y32.size = (b8a K).size by rw [b8a_size, hKl]; rfl)
                  have O2 := Lib.hid (b8a_one K)
                  have B2 := Lib.hid (hm.blk [_, _])
                  have HM := Lib.hid hm
                  clear hm hltk hk hK hKl e8
                  go_wp2_with (first | refine wpList_load_mid rfl _ _ rfl BO 0 rfl (b8a K).toList _ L1.out Try.underlying54 rfl I1.out ?_ | refine wpList_store_row rfl _ _ _ rfl (w.heap.size + 1) (b8a K) rfl rfl 54 _ B2.out I2.out S2.out O2.out ?_)
                  refine bodyPost_ret (results_cell_row rfl _ _ (w.heap.size + 1) 54 _ (0, 0) _ rfl (setRow_heap _ _ _ _ _ _ B2.out) Try.underlying54 rfl I2.out) rfl ⟨by rw [HSK.eq], ?_⟩
                  exact (Mst.setRow (bl := []) [_, _] HM.out _).bel
end Go.Proofs.Ythnaobolmgcclaa
