/- Mac1. Mac2. Mac3. Mac4. Mac5. Mac6. Mac7. Mac8. MacQ. -/
import Derived.Test.YtnbemfceoianiaaBaseB
import Derived.Deep.RegionHeld3
import Derived.Test.YtnbemfceoianiaaDigA
import Derived.Laws.CopyOwn
import Derived.Deep.DeepCutAuto
import Derived.Laws.IdiomStrings
import Derived.Lib.MinMax
/- Bytes as opaque values; the contract of mac.Equal. -/
namespace Go.Proofs.Ytnbemfceoianiaa
set_option linter.unusedVariables false
open Go.RowKit

/-- A byte as a value. -/
def Bv (x : UInt8) : Value := .int .u8 (x.toNat : Int)
theorem Bv_cells (x : UInt8) : (Bv x).cells = #[Bv x] := rfl
theorem Bv_eq (x : UInt8) : Value.int .u8 (x.toNat : Int) = Bv x := rfl
theorem by8_Bv (l : List UInt8) : by8 l = l.map Bv := rfl
section
variable {P : Program} (t : TypeId) (x y : UInt8) (w : World)
theorem Bv_bv : BitVec.ofInt IntKind.u8.bits (x.toNat : Int) = x.toBitVec := by
  show BitVec.ofInt 8 (x.toNat : Int) = x.toBitVec
  rw [BitVec.ofInt_natCast]
  simp
theorem Bv_wr : IntKind.u8.wrap (x.toNat : Int) = (x.toNat : Int) := by
  have := x.toNat_lt
  simp [IntKind.wrap, IntKind.signed, IntKind.bits]
  omega
theorem Bv_xor : (binOp .xor t (Bv x) (Bv y)).run P w = .ok (Bv (x ^^^ y)) w := by
  simp only [binOp, Bv, Op.intBits, ne_eq, not_true, if_false, Bv_bv, Sem.run_pure]
  exact congrArg (fun z => Result.ok (Value.int .u8 z) w) (Bv_wr (x ^^^ y))
theorem Bv_or : (binOp .or t (Bv x) (Bv y)).run P w = .ok (Bv (x ||| y)) w := by
  simp only [binOp, Bv, Op.intBits, ne_eq, not_true, if_false, Bv_bv, Sem.run_pure]
  exact congrArg (fun z => Result.ok (Value.int .u8 z) w) (Bv_wr (x ||| y))
theorem Bv_store (p : Addr) (hc : (w.cell? p).isSome = true) (hf : w.frozen? p = false) : (store p (Bv x)).run P w = .ok () (w.setCell p (Bv x)) := by
  obtain ⟨old, ho⟩ := Option.isSome_iff_exists.1 hc
  simp only [run_store P w _ (Bv x) _ rfl, ho]
  simp [hf]
theorem Bv_zero : ((x.toNat : Int) == 0) = decide (x = 0) := by
  rw [Bool.eq_iff_iff]
  simp only [beq_iff_eq, decide_eq_true_eq]
  constructor
  · intro h
    exact UInt8.toNat_inj.1 (by simpa using h)
  · rintro rfl; rfl
end

/-- In how far two lists of bytes differ. -/
def orK (l l' : List UInt8) : Nat → UInt8
  | 0 => 0
  | k + 1 => orK l l' k ||| (l.getD k 0 ^^^ l'.getD k 0)
theorem orK_zero (l l' : List UInt8) : ∀ k, orK l l' k = 0 ↔ ∀ j, j < k → l.getD j 0 = l'.getD j 0
  | 0 => by simp [orK]
  | k + 1 => by
    rw [orK, UInt8.or_eq_zero_iff, UInt8.xor_eq_zero_iff, orK_zero l l' k]
    constructor
    · rintro ⟨h1, h2⟩ j hj
      rcases Nat.lt_or_ge j k with h | h
      · exact h1 j h
      · obtain rfl : j = k := by omega
        exact h2
    · exact fun h => ⟨fun j hj => h j (by omega), h k (by omega)⟩
theorem orK_eq (l l' : List UInt8) (h : l.length = l'.length) : decide (orK l l' l.length = 0) = decide (l = l') := by
  rw [Bool.eq_iff_iff]
  simp only [decide_eq_true_eq, orK_zero]
  constructor
  · intro h1
    refine List.ext_getElem h fun j h2 h3 => ?_
    have := h1 j h2
    rw [List.getD_eq_getElem?_getD, List.getD_eq_getElem?_getD, List.getElem?_eq_getElem h2, List.getElem?_eq_getElem h3] at this
    exact this
  · rintro rfl j _; rfl
theorem getD_at {l : List UInt8} {k : Nat} (h : k < l.length) : l[k]? = some (l.getD k 0) := by
  rw [List.getD_eq_getElem?_getD, List.getElem?_eq_getElem h]; rfl

set_option maxHeartbeats 1000000 in
theorem equal2_any (A A' : Option Addr) (c c' : Nat) (l l' : List UInt8) (w : World) (hl : RB w w.heap.size A l) (hl' : RB w w.heap.size A' l') (hn : l.length ≤ maxLen) :
    Calls Try.prog 29 #[.slice A l.length c, .slice A' l'.length c'] w fun e w' => e = .returned (.bool (decide (l = l'))) ∧ Below w.heap.size w w' := by
  unfold maxLen at hn
  by_cases hlen : l.length = l'.length
  · rw [← orK_eq l l' hlen]
    obtain ⟨n, hN⟩ : ∃ n, l.length = n := ⟨_, rfl⟩
    have H1 := Lib.hid hl
    have H2 := Lib.hid hl'
    have HN := Lib.hid hN
    have HN' := Lib.hid (hlen.symm.trans hN)
    rw [← hlen, hN] at ⊢
    rw [hN] at hn
    clear hl hl' hN hlen
    have BX := fun x y w => Bv_xor (P := Try.prog) 5 x y w
    have BO := fun x y w => Bv_or (P := Try.prog) 5 x y w
    go_enter Try.func29, Try.ntmps29
    go_wp2_with fail
    go_loopg [14, 5] n (fun g s14 s5 wr => ∃ k : Nat, k + g = n ∧ s14 = .int .i64 k ∧ s5 = Bv (orK l l' k) ∧ Below w.heap.size w wr)
    case atStart => exact ⟨0, by omega, rfl, rfl, Below.refl _ _⟩
    case round =>
      obtain ⟨k, hk, rfl, rfl, hb⟩ := hrel
      by_cases hlt : k < n
      · have hq := HN.out
        have hq' := HN'.out
        obtain ⟨b, o, hA, hbB, hc⟩ := H1.out.at_ (by omega)
        obtain ⟨b', o', hA', hbB', hc'⟩ := H2.out.at_ (by omega)
        have e0 : wr.cell? ⟨b, o + k, none⟩ = some (Bv (l.getD k 0)) := (hb.cell (p := ⟨b, _, none⟩) hbB).trans (hc k _ (getD_at (by omega)))
        have e1 : wr.cell? ⟨b', o' + k, none⟩ = some (Bv (l'.getD k 0)) := (hb.cell (p := ⟨b', _, none⟩) hbB').trans (hc' k _ (getD_at (by omega)))
        have HB := Lib.hid hb
        have HO := Lib.hid (show orK l l' k ||| (l.getD k 0 ^^^ l'.getD k 0) = orK l l' (k + 1) from rfl)
        obtain ⟨x, hx⟩ : ∃ x, l.getD k 0 = x := ⟨_, rfl⟩
        obtain ⟨y, hy⟩ : ∃ x, l'.getD k 0 = x := ⟨_, rfl⟩
        obtain ⟨z, hz⟩ : ∃ x, orK l l' k = x := ⟨_, rfl⟩
        rw [hx, hy, hz] at HO
        rw [hx] at e0
        rw [hy] at e1
        rw [hz]
        clear hc hc' hb hq hq' hx hy hz
        subst hA hA'
        have i1 : (k : Int) < (n : Int) := by omega
        have i2 : (0 : Int) ≤ (k : Int) := by omega
        go_wp2_with fail
        go_quiet (fail)
        go_wp2_with fail
        go_roundg (n - (k + 1))
        case measure => exact meas hk hlt
        case rel => exact ⟨k + 1, meas2 hlt, by go_num, by rw [HO.out], Bdn HB.out _⟩
      · obtain rfl : k = n := by omega
        have HB := Lib.hid hb
        clear hb
        obtain ⟨z, hz⟩ : ∃ x, orK l l' k = x := ⟨_, rfl⟩
        have BZ := Bv_zero z
        rw [hz, show Bv z = .int .u8 (z.toNat : Int) from rfl]
        have HZ := Lib.hid hz
        clear hz
        go_wp2_with fail
        go_ret
        exact ⟨by rw [HZ.out]; rfl, HB.out⟩
  · have h2 : l ≠ l' := fun e => hlen (by rw [e])
    rw [decide_eq_false h2]
    have hne : ((l.length : Int) != (l'.length : Int)) = true := by rw [bne_iff_ne]; omega
    clear hl hl' h2 hlen
    go_enter Try.func29, Try.ntmps29
    go_wp2
    go_ret
    exact ⟨rfl, Below.refl _ _⟩
end Go.Proofs.Ytnbemfceoianiaa

/- 'copy' as a step from Mst to Mst; a key up to a block, with bits turned: plain, and the contract of package mac's filled. -/
namespace Go.Proofs.Ytnbemfceoianiaa
set_option linter.unusedVariables false
open Go.RowKit

section
variable {P : Program} {w W : World} {ow : List Ro}
theorem wpList_copyM {ops : Array Oper} {rest : List Oper} {o : Oper} {a : Act} {Q : Exit → Act → World → Prop} (hgd : o.guard = none) (d s : Operand) (dT sT : TypeId)
    (ho : o.op = .call { callee := .builtin .copy, args := #[d, s], argTypes := #[dT, sT] }) (elem : TypeId) (hu : P.underlying dT = some (.slice elem)) (hsz : (P.info? elem).map (·.size) = some 1)
    (pre : Bl) {post : Bl} {g : Nat} {t : TypeId} {cs : Array Value} (hm : Mst W w (pre ++ (g, t, cs) :: post) ow) (off dLen dCap : Nat) (A : Option Addr) (sLen sCap : Nat)
    (hd : a.eval d = .slice (some ⟨g, off, none⟩) dLen dCap) (hs : a.eval s = .slice A sLen sCap) (B : Nat) (xs : List Value) (hr : Rd w B 1 A sLen xs) (h1 : ∀ u ∈ xs, u.oneCell' = true)
    (N : Nat) (hN : N = Nat.min sLen dLen) (hfit : off + N ≤ cs.size)
    (h : ∀ w', Mst W w' (pre ++ (g, t, (splice cs.toList off (xs.take N)).toArray) :: post) ow → wpList P ops Q rest (a.put o.dst (goInt N)) w') : wpList P ops Q (o :: rest) a w := by
  have hx : (xs.take N).length = N := by
    rw [List.length_take, hr.1]
    have : N ≤ sLen := hN ▸ Nat.min_le_left _ _
    omega
  by_cases h0 : N = 0
  · refine wpList_copy_nothing hgd d s dT sT ho elem hu hsz _ _ dLen dCap sLen sCap hd hs (by omega) ?_
    have := h w (by
      rw [h0, List.take_zero]
      simpa [splice] using hm)
    rw [h0] at this
    exact this
  · have hm' := hm
    have hsl : 0 < sLen := by
      have : N ≤ sLen := hN ▸ Nat.min_le_left _ _
      omega
    obtain ⟨b, oo, rfl, hb, hc⟩ := hr.2 hsl
    have hg := Mst.blk pre hm
    have := wpList_copy_own (P := P) (Q := Q) (rest := rest) (ops := ops) hgd d s dT sT ho elem hu hsz g off dLen dCap ⟨b, oo, none⟩ sLen sCap hd hs cs t hg (xs.take N) (by rw [hx, hN])
      (fun j v hv => by
        rw [WideShapes.add_plain]
        rw [List.getElem?_take] at hv
        split at hv
        · exact hc j v hv
        · cases hv) (by rw [hx]; exact hfit) (fun v hv => h1 v (List.mem_of_mem_take hv))
    rw [hx] at this
    refine this ?_
    have h2 := h _ (Mst.setRow (bl := []) pre hm (splice cs.toList off (xs.take N)).toArray)
    unfold splice at h2
    rw [hx] at h2
    exact h2
end

/-- A digest put into a variable of the call's own. -/
theorem Mst.arr32 {W w : World} {bl : Bl} {ow : List Ro} (h : Mst W w bl ow) (K : List UInt8) :
    Mst W ((w.alloc (.cells Y32 27)).setRow w.heap.size (b8a K)) ((w.heap.size, 27, b8a K) :: bl) ow :=
  Mst.setRow (bl := []) [] (h.new 27 Y32) (b8a K)
theorem Src.arr {W : World} {bl : Bl} {ow : List Ro} {g : Nat} {t : TypeId} {K : List UInt8} {n : Nat} (h : (g, t, b8a K) ∈ bl) (hn : K.length = n) : Src W bl ow 1 (some ⟨g, 0, none⟩) n (by8 K) := by
  have := Src.blk (W := W) (ow := ow) (n := n) (size := 1) h (by rw [b8a_size, Nat.mul_one, hn])
  rwa [show (b8a K).toList = by8 K by simp [b8a]] at this
/-- A block of the call's own as a row. -/
theorem Mst.fullRow {W w : World} {bl : Bl} {ow : List Ro} {g : Nat} {t : TypeId} {cs : Array Value} {n : Nat} {xs : List Value} (h : Mst W w ((g, t, cs) :: bl) ow) (hn : cs.size = n) (hx : cs.toList = xs) (hm : n ≤ maxLen := by decide) :
    w.ownsRow W.heap.size t 1 (.slice (some ⟨g, 0, none⟩) n n) n xs := by
  subst hx
  refine ⟨by simp [hn], .inr ⟨g, n, cs, rfl, (h.bk _ (List.mem_cons_self ..)).2, h.blk [], Nat.le_refl _, hm, by simp [hn], ?_⟩⟩
  rw [List.take_of_length_le (by simp [hn])]
/-- 'make([]byte, n)'. -/
theorem make_u8 (n : Nat) (hn : n ≤ 1000000) (w : World) : (Instr.makeSlice 26 (.int .i64 (n : Int)) (.int .i64 (n : Int))).run Try.prog w = .ok (.slice (some ⟨w.heap.size, 0, none⟩) n n) (w.alloc (.cells (b8a (List.replicate n 0)) 5)) := by
  obtain ⟨i0, hi, hz0, hz1, hz2⟩ := info_parts info_u8
  have := run_make (P := Try.prog) w 26 5 i0 _ Try.underlying26 hi hz0 .i64 .i64 n n (by omega) (Int.le_refl _) (by rw [hz2]; omega) (by omega)
  have e : madeCells (Value.int .u8 0).cells n = b8a (List.replicate n 0) := by
    refine Array.ext (by simp [size_madeCells, b8a_size]) fun j h1 h2 => ?_
    simp [madeCells, b8a, by8, Value.cells, Nat.mod_one]
  rw [this, hz1, Int.toNat_natCast, Nat.mul_one, e]
/-- A key, at most a block long. -/
def keyOf (key : List UInt8) : List UInt8 := if 64 < key.length then sha key else key
theorem keyOf_len (key : List UInt8) : (keyOf key).length ≤ 64 := by
  unfold keyOf
  split
  · rw [show (sha key).length = 32 from rfl]; decide
  · omega
def fillZ (key : List UInt8) : List UInt8 := keyOf key ++ List.replicate (64 - (keyOf key).length) 0
theorem fillZ_len (key : List UInt8) : (fillZ key).length = 64 := by
  have := keyOf_len key
  simp [fillZ]
  omega
def fillB (key : List UInt8) (y : UInt8) : List UInt8 := (fillZ key).map (· ^^^ y)
theorem fillB_len (key : List UInt8) (y : UInt8) : (fillB key y).length = 64 := by simp [fillB, fillZ_len]
/-- The first k of it turned. -/
def fillK (key : List UInt8) (y : UInt8) (k : Nat) : List UInt8 := ((fillZ key).take k).map (· ^^^ y) ++ (fillZ key).drop k
theorem fillK_0 (key : List UInt8) (y : UInt8) : fillK key y 0 = fillZ key := by simp [fillK]
theorem fillK_64 (key : List UInt8) (y : UInt8) : fillK key y 64 = fillB key y := by
  unfold fillK fillB
  rw [List.take_of_length_le (by rw [fillZ_len]; exact Nat.le_refl _), List.drop_of_length_le (by rw [fillZ_len]; exact Nat.le_refl _), List.append_nil]
theorem fillK_len (key : List UInt8) (y : UInt8) {k : Nat} (h : k ≤ 64) : (fillK key y k).length = 64 := by
  simp only [fillK, List.length_append, List.length_map, List.length_take, List.length_drop, fillZ_len]
  omega
theorem fillK_get (key : List UInt8) (y : UInt8) {k : Nat} (h : k < 64) : (fillK key y k).getD k 0 = (fillZ key).getD k 0 := by
  unfold fillK
  rw [List.getD_eq_getElem?_getD, List.getElem?_append_right (by simp [fillZ_len]; omega)]
  simp only [List.length_map, List.length_take, fillZ_len, List.getElem?_drop, List.getD_eq_getElem?_getD]
  congr 2
  omega
theorem fillK_set (key : List UInt8) (y : UInt8) {k : Nat} (h : k < 64) : (fillK key y k).set k ((fillZ key).getD k 0 ^^^ y) = fillK key y (k + 1) := by
  have hl := fillZ_len key
  refine List.ext_getElem? fun j => ?_
  rw [List.getElem?_set]
  by_cases hj : k = j
  · subst hj
    rw [if_pos rfl, if_pos (by rw [fillK_len _ _ (by omega)]; exact h)]
    unfold fillK
    rw [List.getElem?_append_left (by simp [hl]; omega), List.getElem?_map, List.getElem?_take, if_pos (by omega), getD_at (by omega)]
    rfl
  · rw [if_neg hj]
    unfold fillK
    by_cases hlt : j < k
    · rw [List.getElem?_append_left (by simp [hl]; omega), List.getElem?_append_left (by simp [hl]; omega), List.getElem?_map, List.getElem?_map, List.getElem?_take, List.getElem?_take, if_pos hlt, if_pos (by omega)]
    · rw [List.getElem?_append_right (by simp [hl]; omega), List.getElem?_append_right (by simp [hl]; omega), List.getElem?_drop, List.getElem?_drop]
      congr 1
      simp [hl]
      omega
theorem by8_splice (l : List UInt8) (n : Nat) : splice (by8 (List.replicate n 0)) 0 (by8 l) = by8 (l ++ List.replicate (n - l.length) 0) := by
  simp [splice, by8]

/-- A part for the digest: the slice of bytes at hand, in a row of one. -/
def z64 : Array Value := b8a (List.replicate 64 0)
theorem z64_size : z64.size = 64 := by simp [z64, b8a_size]
structure FlM (w wr : World) (g : Nat) (key : List UInt8) (v6 : Value) : Prop where
  m : ∃ A c xb xr, v6 = .slice A (keyOf key).length c ∧ Mst w wr ((g, 5, z64) :: xb) xr ∧ Src w xb xr 1 A (keyOf key).length (by8 (keyOf key))

set_option maxRecDepth 100000 in
set_option maxHeartbeats 1000000 in
theorem filled_any (w : World) (A : Option Addr) (c : Nat) (key : List UInt8) (y : UInt8) (hr : RB w w.heap.size A key) (hk : key.length ≤ 100000) :
    Calls Try.prog 66 #[.slice A key.length c, .int .u8 (y.toNat : Int)] w fun e w' => ∃ g, e = .returned (.slice (some ⟨g, 0, none⟩) 64 64) ∧ Fresh w w' 5 1 (.slice (some ⟨g, 0, none⟩) 64 64) 64 (by8 (fillB key y)) := by
  have HR := Lib.hid hr
  obtain ⟨n, hn⟩ : ∃ n, key.length = n := ⟨_, rfl⟩
  have HN := Lib.hid hn
  rw [hn] at hk ⊢
  have m0 := (Mst.start w).new 5 z64
  have M0 := Lib.hid m0
  have hmk : ∀ w, (Instr.makeSlice 26 (.int .i64 64) (.int .i64 64)).run Try.prog w = .ok (.slice (some ⟨w.heap.size, 0, none⟩) 64 64) (w.alloc (.cells z64 5)) := fun w => make_u8 64 (by decide) w
  clear hr hn m0
  go_enter Try.func66, Try.ntmps66
  go_upto_if 13 with fail
  go_cut [6] (fun s6 wr => FlM w wr w.heap.size key s6)
  case first =>
    by_cases h64 : 64 < n
    · have i1 : (64 : Int) < n := by omega
      have hK : keyOf key = sha key := by unfold keyOf; rw [if_pos (by rw [HN.out]; exact h64)]
      obtain ⟨K, hK2⟩ : ∃ K, sha key = K := ⟨_, rfl⟩
      have hKl : K.length = 32 := by rw [← hK2]; rfl
      rw [hK2] at hK
      have HK := Lib.hid hK
      have HKL := Lib.hid hKl
      have m1 := M0.out.one (A := A) (l := key) (Src.old HR.out) c
      rw [HN.out] at m1
      have HD := Lib.hid (show Calls Try.prog 68 #[.slice (some ⟨w.heap.size + 1, 0, none⟩) 1 1] ((w.alloc (.cells z64 5)).alloc (.cells #[.slice A n c] 26)) fun e w2 => e = .returned (.agg (b8a K)) ∧ Below (w.heap.size + 1 + 1) ((w.alloc (.cells z64 5)).alloc (.cells #[.slice A n c] 26)) w2 from by
        have := dsum_any _ _ 1 _ m1.2 (by simp) (by simp [catP]; rw [HN.out]; omega)
        rw [show catP [(⟨A, c, key⟩ : Pt)] = key by simp [catP], hK2] at this
        simpa using this)
      have M1 := Lib.hid m1.1
      clear hK hKl hK2 m1
      go_wp2_with fail
      refine HD.out.mono ?_
      rintro e w2 ⟨rfl, hb2⟩
      have m2 := M1.out.below (by simpa using hb2)
      have m3 := m2.arr32 K
      have M3 := Lib.hid m3
      clear hb2 m2 m3
      go_wp2_with (first | refine wpList_store_row rfl _ _ _ rfl w2.heap.size (b8a K) rfl rfl 27 _ (Bk.mk_ _ _ _) (info_k HKL.out) (y32_k HKL.out) (b8a_one K) ?_)
      go_meet
      exact ⟨some ⟨w2.heap.size, 0, none⟩, 32, [_], _, by rw [HK.out, HKL.out], M3.out.perm (List.Perm.swap _ _ _) (List.Perm.refl _), by rw [HK.out]; exact Src.arr (List.mem_cons_self ..) rfl⟩
    · have i1 : ¬ (64 : Int) < n := by omega
      have hK : keyOf key = key := by unfold keyOf; rw [if_neg (by rw [HN.out]; exact h64)]
      have HK := Lib.hid hK
      clear hK
      go_wp2_with fail
      go_meet
      exact ⟨A, c, [], [], by rw [HK.out, HN.out], M0.out, by rw [HK.out]; exact Src.old HR.out⟩
  case rest =>
    obtain ⟨A6, c6, xb, xr, rfl, hm, hs⟩ := hcut.m
    have hkl := keyOf_len key
    obtain ⟨n6, hn6⟩ : ∃ n, (keyOf key).length = n := ⟨_, rfl⟩
    rw [hn6] at hs hkl ⊢
    have HN6 := Lib.hid hn6
    have M0 := Lib.hid hm
    have HS := Lib.hid hs
    obtain ⟨g5, hg5⟩ : ∃ g, w.heap.size = g := ⟨_, rfl⟩
    rw [hg5] at M0 ⊢
    have HG5 := Lib.hid hg5
    have b2 : Nat.min n6 64 = n6 := Nat.min_eq_left hkl
    have B2 := Lib.hid b2
    clear hm hs hn6 hcut hg5 b2
    have hZ : 0 + n6 ≤ z64.size := by rw [z64_size]; omega
    go_wp2_with ((with_reducible show wpList _ _ _ _ _ _); refine wpList_copyM rfl (.tmp 18) (.tmp 19) 26 26 rfl 5 Try.underlying26 (by kernel_rfl) [] M0.out 0 64 64 A6 n6 c6 rfl rfl _ _ (M0.out.src (HS.out.cb _)) (by8_one _) n6 B2.out.symm hZ ?_; intro w2 hm2; have M2 := Lib.hid hm2; clear hm2)
    have m3 := M2.out
    rw [show z64.toList = by8 (List.replicate 64 0) by simp [z64, b8a], List.take_of_length_le (by rw [by8_length, HN6.out]; exact Nat.le_refl _), by8_splice] at m3
    have m4 := m3.sub (bl' := [(g5, 5, b8a (fillK key y 0))]) (ow' := []) (by rw [fillK_0]; exact List.Sublist.cons_cons _ (List.nil_sublist _)) (List.nil_sublist _)
    have M4 := Lib.hid m4
    have MK := Lib.hid (show Mst w w2 [(g5, 5, b8a (fillK key y 0))] [] from m4)
    have ST := fun (x : UInt8) p w => Bv_store (P := Try.prog) x w p
    have SC := fun x => (Value.cells.eq_def (Bv x)).symm.trans (Bv_cells x)
    have BX := fun x y w => Bv_xor (P := Try.prog) 5 x y w
    rw [Bv_eq]
    clear m3 m4 M2 M0 hZ hmk
    go_loopg [23] 64 (fun gk s23 wr => ∃ k : Nat, k + gk = 64 ∧ s23 = .int .i64 k ∧ Mst w wr [(g5, 5, b8a (fillK key y k))] [])
    case atStart => exact ⟨0, by omega, rfl, MK.out⟩
    case round =>
      obtain ⟨k, hk, rfl, hm⟩ := hrel
      by_cases hlt : k < 64
      · have f3 := (hm.blk []).fr k
        have c3 : wr.cell? ⟨g5, k, none⟩ = some (Bv ((fillZ key).getD k 0)) := ((hm.blk []).cell k).trans (by rw [b8a_get (by rw [fillK_len _ _ (by omega)]; exact hlt), fillK_get _ _ hlt]; rfl)
        obtain ⟨x, hx⟩ : ∃ x, (fillZ key).getD k 0 = x := ⟨_, rfl⟩
        have hs := fillK_set key y hlt
        rw [hx] at c3 hs
        have HX := Lib.hid hs
        have HM := Lib.hid hm
        clear hx hs hm
        go_wp2
        go_roundg (64 - (k + 1))
        case measure => exact meas hk hlt
        case rel => exact ⟨k + 1, meas2 hlt, by go_num, by
          have := HM.out.put [] k (Bv (x ^^^ y))
          rw [show Bv (x ^^^ y) = .int .u8 ((x ^^^ y).toNat : Int) from rfl, b8a_set, HX.out] at this
          exact this⟩
      · obtain rfl : k = 64 := by omega
        rw [fillK_64] at hm
        have HM := Lib.hid hm
        clear hm hlt hk
        go_wp2_with fail
        go_ret
        exact ⟨g5, rfl, HM.out.bel, HM.out.fullRow (by rw [b8a_size, fillB_len]) (by simp [b8a])⟩
end Go.Proofs.Ytnbemfceoianiaa

/- Contracts of package mac: tag, Tag, Check. -/
namespace Go.Proofs.Ytnbemfceoianiaa
set_option linter.unusedVariables false
set_option linter.unusedSimpArgs false
open Go.RowKit

/-- The tag of bytes under a key. -/
def macT (key b : List UInt8) : List UInt8 := sha (fillB key 92 ++ sha (fillB key 54 ++ b))
theorem macT_len (key b : List UInt8) : (macT key b).length = 32 := rfl
theorem RunX.addr {W w w' : World} {xb : Bl} {xr : List Ro} {g : Nat} {st : Option (List UInt8)} {e size n : Nat} {v : Value} {xs : List Value} (h : RunX W w xb xr g st) (hf : Fresh w w' e size v n xs) : RunX W w' xb (⟨e, size, v, n, xs⟩ :: xr) g st := by
  obtain ⟨x, hr, h1, h2⟩ := h
  exact ⟨x, hr, h1, (h2.addr hf).perm (List.Perm.refl _) List.perm_middle.symm⟩
theorem Mst.two {W w : World} {bl : Bl} {ow : List Ro} (h : Mst W w bl ow) {p q : Pt} (h1 : Src W bl ow 1 p.A p.l.length (by8 p.l)) (h2 : Src W bl ow 1 q.A q.l.length (by8 q.l)) :
    Mst W (w.alloc (.cells #[p.v, q.v] 26)) bl (⟨26, 1, .slice (some ⟨w.heap.size, 0, none⟩) 2 2, 2, [p.v, q.v]⟩ :: ow) ∧
    Pts (w.alloc (.cells #[p.v, q.v] 26)) (some ⟨w.heap.size, 0, none⟩) [p, q] := by
  have m1 := h.newrow 26 1 2 2 #[p.v, q.v] (Nat.le_refl _) (by decide) rfl
  refine ⟨m1, m1.src (m1.rowSrc (List.mem_cons_self ..)), fun x hx => ?_⟩
  have hx2 : x = p ∨ x = q := by simpa using hx
  rcases hx2 with rfl | rfl
  · exact m1.src (h1.cr _)
  · exact m1.src (h2.cr _)
theorem Mst.twoE {W w w2 : World} {bl : Bl} {ow : List Ro} (h : Mst W w bl ow) {A1 A2 : Option Addr} {l1 l2 : List UInt8} {n1 n2 : Nat} (e1 : l1.length = n1) (e2 : l2.length = n2) (h1 : Src W bl ow 1 A1 n1 (by8 l1)) (h2 : Src W bl ow 1 A2 n2 (by8 l2))
    {c1 c2 : Nat} (hw : w.alloc (.cells #[.slice A1 n1 c1, .slice A2 n2 c2] 26) = w2) : ∃ y, Mst W w2 bl (y :: ow) ∧ Pts w2 (some ⟨w.heap.size, 0, none⟩) [⟨A1, c1, l1⟩, ⟨A2, c2, l2⟩] := by
  subst e1 e2 hw
  exact ⟨_, h.two (p := ⟨A1, c1, l1⟩) (q := ⟨A2, c2, l2⟩) h1 h2⟩
theorem Mst.oneE {W w w2 : World} {bl : Bl} {ow : List Ro} (h : Mst W w bl ow) {A1 : Option Addr} {l1 : List UInt8} {n1 : Nat} (e1 : l1.length = n1) (h1 : Src W bl ow 1 A1 n1 (by8 l1))
    {c1 : Nat} (hw : w.alloc (.cells #[.slice A1 n1 c1] 26) = w2) : ∃ y, Mst W w2 bl (y :: ow) ∧ Pts w2 (some ⟨w.heap.size, 0, none⟩) [⟨A1, c1, l1⟩] := by
  subst e1 hw
  exact ⟨_, h.one h1 c1⟩

set_option maxRecDepth 100000 in
set_option maxHeartbeats 1000000 in
theorem rtag_any (w : World) (A : Option Addr) (c : Nat) (key : List UInt8) (hr : RB w w.heap.size A key) (hk : key.length ≤ 100000) (A1 : Option Addr) (c1 : Nat) (ps : List Pt) (hp : Pts w A1 ps) (hn : ps.length ≤ 1000) (hl : (catP ps).length ≤ 800000) :
    Calls Try.prog 50 #[.slice A key.length c, .slice A1 ps.length c1] w fun e w' => e = .returned (.agg (b8a (macT key (catP ps)))) ∧ Below w.heap.size w w' := by
  obtain ⟨K1, hK1⟩ : ∃ K, sha (fillB key 54 ++ catP ps) = K := ⟨_, rfl⟩
  have hKl1 : K1.length = 32 := by rw [← hK1]; rfl
  obtain ⟨K2, hK2⟩ : ∃ K, macT key (catP ps) = K := ⟨_, rfl⟩
  have hKl2 : K2.length = 32 := by rw [← hK2]; rfl
  rw [hK2]
  have hK3 : sha (fillB key 92 ++ K1) = K2 := by rw [← hK2, ← hK1]; rfl
  have KL1 := Lib.hid hKl1
  have KL2 := Lib.hid hKl2
  have HF1 := Lib.hid (show ∀ (w' : World), Below w.heap.size w w' → Calls Try.prog 66 #[.slice A key.length c, .int .u8 54] w' fun e w2 => ∃ g, e = .returned (.slice (some ⟨g, 0, none⟩) 64 64) ∧ Fresh w' w2 5 1 (.slice (some ⟨g, 0, none⟩) 64 64) 64 (by8 (fillB key 54)) from fun (w' : World) (hb : Below w.heap.size w w') => filled_any w' A c key 54 ((hr.below hb).more hb.size) hk)
  have HF2 := Lib.hid (show ∀ (w' : World), Below w.heap.size w w' → Calls Try.prog 66 #[.slice A key.length c, .int .u8 92] w' fun e w2 => ∃ g, e = .returned (.slice (some ⟨g, 0, none⟩) 64 64) ∧ Fresh w' w2 5 1 (.slice (some ⟨g, 0, none⟩) 64 64) 64 (by8 (fillB key 92)) from fun (w' : World) (hb : Below w.heap.size w w') => filled_any w' A c key 92 ((hr.below hb).more hb.size) hk)
  have HPS := Lib.hid hp
  have m1 := (Mst.start w).new 27 Y32
  have m2 := m1.new 117 Z67
  rw [show (w.alloc (.cells Y32 27)).heap.size = w.heap.size + 1 by simp] at m2
  have R2 := Lib.hid (show RunX w _ [(w.heap.size, 27, Y32)] [] (w.heap.size + 1) none from ⟨_, [], ⟨none, 0, by rw [← Z67_eq], Src.nil_ _ _ _ _ _, Nat.le_refl _, by decide⟩, m2⟩)
  obtain ⟨L1, hL1⟩ : ∃ L, fillB key 54 = L := ⟨_, rfl⟩
  obtain ⟨L2, hL2⟩ : ∃ L, fillB key 92 = L := ⟨_, rfl⟩
  have hl1 : L1.length = 64 := by rw [← hL1, fillB_len]
  have hl2 : L2.length = 64 := by rw [← hL2, fillB_len]
  rw [hL1] at HF1 hK1
  rw [hL2] at HF2 hK3
  obtain ⟨T, hT⟩ : ∃ L, catP ps = L := ⟨_, rfl⟩
  rw [hT] at hl hK1
  obtain ⟨N, hN⟩ : ∃ n, key.length = n := ⟨_, rfl⟩
  obtain ⟨n, hN2⟩ : ∃ n, ps.length = n := ⟨_, rfl⟩
  rw [hN] at HF1 HF2 hk ⊢
  rw [hN2] at hn ⊢
  have LL1 := Lib.hid hl1
  have LL2 := Lib.hid hl2
  have HT := Lib.hid hT
  have HN2 := Lib.hid hN2
  have HK1 := Lib.hid hK1
  have HK3 := Lib.hid hK3
  clear hr hp m1 m2 hK1 hK2 hK3 hKl1 hKl2 hL1 hL2 hl1 hl2 hT hN hN2
  have HD2 := Lib.hid (show ∀ w' B (p q : Pt), p.l = L2 → q.l = K1 → Pts w' B [p, q] → Calls Try.prog 68 #[.slice B 2 2] w' fun e w2 => e = .returned (.agg (b8a K2)) ∧ Below w'.heap.size w' w2 from fun w' B p q h1 h2 h => by
    have := dsum_any w' B 2 _ h (by simp) (by simp [catP, h1, h2, LL2.out, KL1.out])
    rw [show catP [p, q] = L2 ++ K1 by simp [catP, h1, h2], HK3.out] at this
    exact this)
  go_enter Try.func50, Try.ntmps50
  go_wp2_with fail
  refine (HF1.out _ R2.out.bel).mono ?_
  rintro e w3 ⟨g3, rfl, hf3⟩
  have R3 := Lib.hid (R2.out.addr hf3)
  clear hf3
  go_wp2_with fail
  generalize hwq : World.alloc w3 _ = w4
  obtain ⟨y4, r4, hs4⟩ := R3.out.oneE LL1.out (R3.out.mst.rowSrc (List.mem_cons_self ..)) hwq
  have R4 := Lib.hid r4
  have HS4 := Lib.hid hs4
  clear r4 hs4 hwq
  have HA4 := Lib.hid (show Calls Try.prog 65 #[.pointer (some ⟨w.heap.size + 1, 0, none⟩), .slice (some ⟨w3.heap.size, 0, none⟩) 1 1] w4 fun e w' => e = .returned (.pointer (some ⟨w.heap.size + 1, 0, none⟩)) ∧ RunX w w' _ _ (w.heap.size + 1) (some L1) from by
    have := add_any _ w4 _ _ _ _ R4.out _ 1 _ HS4.out (by simp) (by show 0 + _ ≤ _; simp [catP]; rw [LL1.out]; decide)
    rw [show told none ++ catP [(⟨some ⟨g3, 0, none⟩, 64, L1⟩ : Pt)] = L1 by simp [catP, told]] at this
    exact this)
  refine HA4.out.mono ?_
  rintro e w5 ⟨rfl, r5⟩
  have R5 := Lib.hid r5
  clear r5
  have HA5 := Lib.hid (show Calls Try.prog 65 #[.pointer (some ⟨w.heap.size + 1, 0, none⟩), .slice A1 n c1] w5 fun e w' => e = .returned (.pointer (some ⟨w.heap.size + 1, 0, none⟩)) ∧ RunX w w' _ _ (w.heap.size + 1) (some (L1 ++ T)) from by
    have := add_any _ w5 _ _ _ _ R5.out A1 c1 _ (HPS.out.old _ _) (by rw [HN2.out]; exact hn) (by show L1.length + _ ≤ _; rw [LL1.out, HT.out]; omega)
    rw [HN2.out, show told (some L1) = L1 from rfl, HT.out] at this
    exact this)
  go_wp2_with fail
  refine HA5.out.mono ?_
  rintro e w6 ⟨rfl, r6⟩
  have R6 := Lib.hid r6
  clear r6
  have HA6 := Lib.hid (show Calls Try.prog 67 #[.pointer (some ⟨w.heap.size + 1, 0, none⟩)] w6 fun e w' => e = .returned (.agg (b8a K1)) ∧ RunX w w' _ _ (w.heap.size + 1) (some (L1 ++ T)) from by
    have := R6.out.sum (by show (L1 ++ T).length ≤ _; rw [List.length_append, LL1.out]; omega)
    rw [show told (some (L1 ++ T)) = L1 ++ T from rfl, HK1.out] at this
    exact this)
  go_wp2_with fail
  refine HA6.out.mono ?_
  rintro e w7 ⟨rfl, r7⟩
  have M7 := Lib.hid (r7.mst.arr32 K1)
  clear r7
  go_wp2_with (first | refine wpList_store_row rfl _ _ _ rfl w7.heap.size (b8a K1) rfl rfl 27 _ (Bk.mk_ _ _ _) (info_k KL1.out) (y32_k KL1.out) (b8a_one K1) ?_)
  obtain ⟨g6, hg6⟩ : ∃ g, w7.heap.size = g := ⟨_, rfl⟩
  rw [hg6] at M7 ⊢
  generalize World.setRow _ _ _ = w8 at M7 ⊢
  have Mq := Lib.hid (M7.out.sub (List.Sublist.refl _) (List.nil_sublist _)).drew
  clear hg6
  refine wp_region_held_drew (S := fun _ => True) (by kernel_rfl) ?_ (fun hHeld => ?_)
  · trivial
  refine wpAnyH_take (i := 0) (v := ?_) rfl (by kernel_rfl) (by kernel_rfl) (by kernel_rfl) (fun _ _ _ h => h) (Or.inl ⟨by rfl, ?_⟩) (by assumption) ?_
  rotate_left
  · intro w hSw; (try dsimp only at hSw); go_split_ands; go_simp; with_reducible rfl
  change wpAnyH _ _ _ _ _ _ _ (Act.put _ (some 14) _) _
  simp only [Act.put, List.setIfInBounds_toArray, List.set_cons_zero, List.set_cons_succ, Array.toArray_toList]
  refine wpAnyH_take (i := 2) (v := ?_) rfl (by kernel_rfl) (by kernel_rfl) (by kernel_rfl) (fun _ _ _ h => h) (Or.inl ⟨by rfl, ?_⟩) (by assumption) ?_
  rotate_left
  · intro w hSw; (try dsimp only at hSw); go_split_ands; go_simp; with_reducible rfl
  change wpAnyH _ _ _ _ _ _ _ (Act.put _ (some 16) _) _
  simp only [Act.put, List.setIfInBounds_toArray, List.set_cons_zero, List.set_cons_succ, Array.toArray_toList]
  refine wpAnyH_ready (rs := [1]) (by kernel_rfl) (by simp) ?_
  refine (AllReadyH.cons rfl (fun K hK => ?_) AllReadyH.nil)
  go_simp
  with_reducible refine (HF2.out _ Mq.out.bel).mono ?_; rintro e w9 ⟨g9, rfl, hf9⟩; have Mq := Lib.hid (Mq.out.addr hf9); clear hf9
  go_wp2_with fail
  refine hK.out _ _ (by trivial) (fun hHeld => ?_)
  clear hK K
  refine wpAnyH_ready (rs := [3]) (by kernel_rfl) (by simp) ?_
  refine (AllReadyH.cons rfl (fun K hK => ?_) AllReadyH.nil)
  go_simp; generalize hwq : World.alloc _ _ = wq; obtain ⟨y, mq, hp⟩ := Mq.out.twoE LL2.out KL1.out (Mq.out.rowSrc (List.mem_cons_self ..)) (Src.arr (List.mem_cons_self ..) KL1.out) hwq; have Mq := Lib.hid mq; have HP := Lib.hid hp; clear mq hp hwq
  refine hK.out _ _ (by trivial) (fun hHeld => ?_)
  clear hK K
  refine wpAnyH_ready (rs := [4]) (by kernel_rfl) (by simp) ?_
  refine (AllReadyH.cons rfl (fun K hK => ?_) AllReadyH.nil)
  go_simp
  with_reducible refine (HD2.out _ _ _ _ rfl rfl HP.out).mono ?_; rintro e wq ⟨rfl, hb⟩; have Mq := Lib.hid (Mq.out.below hb); clear hb
  go_wp2_with fail
  refine hK.out _ _ (by trivial) (fun hHeld => ?_)
  clear hK K
  refine wpAnyH_ready (rs := [5]) (by kernel_rfl) (by simp) ?_
  refine (AllReadyH.cons rfl (fun K hK => ?_) AllReadyH.nil)
  refine step_store_row rfl _ _ _ rfl w.heap.size (b8a K2) rfl rfl 27 _ (Mq.out.blk [_]) (info_k KL2.out) (y32_k KL2.out) (b8a_one K2) ?_
  refine hK.out _ _ (by trivial) (fun hHeld => ?_)
  clear hK K
  refine wpAnyH_done (by kernel_rfl) ?_ _
  go_wp2
  refine bodyPost_ret (results_cell_row rfl _ _ w.heap.size 27 _ (0, 0) _ rfl (setRow_heap _ _ _ _ _ _ (Mq.out.blk [_])) Try.underlying27 rfl (info_k KL2.out)) rfl ⟨rfl, (Mst.setRow (bl := []) [_] Mq.out (b8a K2)).bel⟩

set_option maxRecDepth 100000 in
set_option maxHeartbeats 1000000 in
theorem mtag_any (w : World) (A : Option Addr) (c : Nat) (key : List UInt8) (hr : RB w w.heap.size A key) (hk : key.length ≤ 100000) (A1 : Option Addr) (c1 : Nat) (ps : List Pt) (hp : Pts w A1 ps) (hn : ps.length ≤ 1000) (hl : (catP ps).length ≤ 800000) :
    Calls Try.prog 49 #[.slice A key.length c, .slice A1 ps.length c1] w fun e w' => e = .returned (.agg (b8a (macT key (catP ps)))) ∧ Below w.heap.size w w' := by
  obtain ⟨K2, hK2⟩ : ∃ K, macT key (catP ps) = K := ⟨_, rfl⟩
  have hKl2 : K2.length = 32 := by rw [← hK2]; rfl
  have m1 := (Mst.start w).new 27 Y32
  have h1 := rtag_any (w.alloc (.cells Y32 27)) A c key (m1.src (Src.old hr)) hk A1 c1 ps (m1.pts (hp.old _ _)) hn hl
  rw [hK2] at h1 ⊢
  have HT := Lib.hid h1
  have KL2 := Lib.hid hKl2
  have M1 := Lib.hid m1
  clear hr hp hK2 hKl2 h1 m1
  go_enter Try.func49, Try.ntmps49
  go_wp2_with fail
  refine HT.out.mono ?_
  rintro e w2 ⟨rfl, hb⟩
  have Mq := Lib.hid (M1.out.below hb)
  clear hb
  go_wp2_with (first | refine wpList_store_row rfl _ _ _ rfl w.heap.size (b8a K2) rfl rfl 27 _ (Mq.out.blk []) (info_k KL2.out) (y32_k KL2.out) (b8a_one K2) ?_)
  exact bodyPost_ret (results_cell_row rfl _ _ w.heap.size 27 _ (0, 0) _ rfl (setRow_heap _ _ _ _ _ _ (Mq.out.blk [])) Try.underlying27 rfl (info_k KL2.out)) rfl ⟨rfl, (Mst.setRow (bl := []) [] Mq.out (b8a K2)).bel⟩

end Go.Proofs.Ytnbemfceoianiaa

/- A block with marks beside the memory of a call; the contract of package mac's framed. -/
namespace Go.Proofs.Ytnbemfceoianiaa
set_option linter.unusedVariables false
set_option linter.unusedSimpArgs false
open Go.RowKit

/-- A block of the call's own, with whatever marks, that nothing writes. -/
structure Mz (W wr : World) (bl : Bl) (ow : List Ro) (gM : Nat) (ob : Obj) : Prop where
  m : Mst W wr bl ow
  z : wr.heap[gM]? = some ob
  lo : W.heap.size ≤ gM
  nb : ∀ x ∈ bl, x.1 ≠ gM
  nr : ∀ y ∈ ow, y.v.ownBlock ≠ some gM
section
variable {W wr w' : World} {bl : Bl} {ow : List Ro} {gM : Nat} {ob : Obj}
theorem Mz.lt (h : Mz W wr bl ow gM ob) : gM < wr.heap.size := by
  rcases Nat.lt_or_ge gM wr.heap.size with h1 | h1
  · exact h1
  · have := h.z
    rw [Array.getElem?_eq_none h1] at this
    cases this
theorem Mz.newrow (h : Mz W wr bl ow gM ob) (e : TypeId) (size n cap : Nat) (cs : Array Value) (hn : n ≤ cap) (hm : cap ≤ maxLen) (hs : cs.size = cap * size) :
    Mz W (wr.alloc (.cells cs e)) bl (⟨e, size, .slice (some ⟨wr.heap.size, 0, none⟩) n cap, n, cs.toList.take (n * size)⟩ :: ow) gM ob := by
  refine ⟨h.m.newrow e size n cap cs hn hm hs, (Below.heap_alloc wr _ gM h.lt).trans h.z, h.lo, h.nb, fun y hy => ?_⟩
  rcases List.mem_cons.1 hy with rfl | hy
  · have := h.lt
    intro e
    have e' : wr.heap.size = gM := by injection e
    omega
  · exact h.nr y hy
theorem Mz.put (pre : Bl) {post : Bl} {g : Nat} {t : TypeId} {cs : Array Value} (h : Mz W wr (pre ++ (g, t, cs) :: post) ow gM ob) (i : Nat) (u : Value) :
    Mz W (wr.setCell ⟨g, i, none⟩ u) (pre ++ (g, t, cs.setIfInBounds i u) :: post) ow gM ob := by
  refine ⟨h.m.put pre i u, ?_, h.lo, fun x hx => ?_, h.nr⟩
  · refine (Below.heap_setCell wr ⟨g, i, none⟩ u gM ?_).trans h.z
    exact fun e => h.nb (g, t, cs) (by simp) e.symm
  · rcases List.mem_append.1 hx with hx | hx
    · exact h.nb x (List.mem_append_left _ hx)
    · rcases List.mem_cons.1 hx with rfl | hx
      · exact h.nb (g, t, cs) (by simp)
      · exact h.nb x (by simp [hx])
theorem Mz.perm {bl' : Bl} {ow' : List Ro} (h : Mz W wr bl ow gM ob) (h1 : bl.Perm bl') (h2 : ow.Perm ow') : Mz W wr bl' ow' gM ob :=
  ⟨h.m.perm h1 h2, h.z, h.lo, fun x hx => h.nb x (h1.mem_iff.2 hx), fun y hy => h.nr y (h2.mem_iff.2 hy)⟩
/-- Such a block, just made. -/
theorem Mst.mark (h : Mst W wr bl ow) (ob : Obj) : Mz W (wr.drew.alloc ob) bl ow wr.heap.size ob := by
  refine ⟨h.drew.alloc ob, heap_alloc_new wr.drew ob, h.bel.size, fun x hx => ?_, fun y hy e => ?_⟩
  · have := (h.bk x hx).1.lt
    omega
  · have := ((h.own y hy).lt _ e).2
    omega
theorem wpList_appZ {P : Program} {ops : Array Oper} {rest : List Oper} {o : Oper} {a : Act} {Q : Exit → Act → World → Prop} (hgd : o.guard = none) (s x : Operand) (t : TypeId)
    (ho : o.op = .call { callee := .builtin .append, args := #[s, x], argTypes := #[t, t] })
    (pre : List Ro) {post : List Ro} {e : TypeId} {size n bytes : Nat} {v : Value} {xs : List Value} (hm : Mz W wr bl (pre ++ ⟨e, size, v, n, xs⟩ :: post) gM ob) (hE : El P t e size bytes) (hs : a.eval s = v)
    (B : Nat) (A : Option Addr) (m c : Nat) (news : List Value) (hx : a.eval x = .slice A m c) (hr : Rd wr B size A m news) (h1 : ∀ u ∈ news, u.oneCell' = true)
    (h63 : n + m ≤ maxLen) (hbytes : (n + m) * bytes ≤ 140737488355328)
    (h : ∀ A' c' w', Mz W w' bl (pre ++ ⟨e, size, .slice A' (n + m) c', n + m, xs ++ news⟩ :: post) gM ob → wpList P ops Q rest (a.put o.dst (.slice A' (n + m) c')) w') : wpList P ops Q (o :: rest) a wr := by
  obtain ⟨ht, ⟨i, z, hi, hz, hsize, hby, hzs⟩, hp⟩ := hE
  refine wpList_app wr hgd s x t ho W.heap.size e i z size bytes ht hi hz hsize hby hzs hp v n xs hs (hm.m.row pre) B A m c news hx hr h1 h63 hbytes hm.m.bel.size fun A' c' w' h2 h3 h4 => h A' c' w' ⟨hm.m.app pre h3 h2 h4, ?_, hm.lo, hm.nb, ?_⟩
  · exact (h3.block gM hm.lt (fun e2 => hm.nr ⟨e, size, v, n, xs⟩ (by simp) e2.symm)).trans hm.z
  · intro y hy
    rcases List.mem_append.1 hy with hy | hy
    · exact hm.nr y (List.mem_append_left _ hy)
    · rcases List.mem_cons.1 hy with rfl | hy
      · rcases h4 with h5 | h5
        · rw [h5]
          exact hm.nr ⟨e, size, v, n, xs⟩ (by simp)
        · rw [h5]
          have := hm.lt
          intro e2
          injection e2
          omega
      · exact hm.nr y (by simp [hy])
end
/-- A source in older memory, a row of the call's own, or the marked block. -/
def SZ (W : World) (rows : List Ro) (gM : Nat) (ob : Obj) (A : Option Addr) (l : List UInt8) : Prop :=
  Src W [] rows 1 A l.length (by8 l) ∨ (A = some ⟨gM, 0, none⟩ ∧ ∃ (cs : Array Value) (e : TypeId) (z : Nat × Nat), ob = .cells cs e z ∧ ∀ (j : Nat) (u : Value), (by8 l)[j]? = some u → cs[j]? = some u)
theorem SZ.sub {W : World} {rows rows' : List Ro} {gM : Nat} {ob : Obj} {A : Option Addr} {l : List UInt8} (h : SZ W rows gM ob A l) (hs : ∀ y ∈ rows, y ∈ rows') : SZ W rows' gM ob A l :=
  h.imp (fun h => h.sub (fun _ h => h) hs) id
theorem Mz.rd {W wr : World} {bl : Bl} {ow rows : List Ro} {gM : Nat} {ob : Obj} {A : Option Addr} {l : List UInt8} (h : Mz W wr bl ow gM ob) (hs : SZ W rows gM ob A l) (hr : ∀ y ∈ rows, y ∈ ow) : RB wr wr.heap.size A l := by
  rcases hs with hs | ⟨rfl, cs, e, z, rfl, hc⟩
  · exact h.m.src (hs.sub (fun _ h => nomatch h) hr)
  · refine ⟨by rw [by8_length]; omega, fun _ => ⟨gM, 0, rfl, h.lt, fun j u hu => ?_⟩⟩
    refine (cell_of_row _ gM (0 + j) _ _ z h.z).trans ?_
    rw [Nat.zero_add]
    exact hc j u hu

/-- Four bytes for a length. -/
def len4 (n : Nat) : List UInt8 := [UInt8.ofNat (n >>> 24), UInt8.ofNat (n >>> 16), UInt8.ofNat (n >>> 8), UInt8.ofNat n]
/-- What is laid so far: a row of slices, in a variable. -/
structure FrX (W w : World) (gc gM : Nat) (ob : Obj) (ls : List (List UInt8)) (rows : List Ro) : Prop where
  ex : ∃ (v : Value) (qs : List Pt), qs.map Pt.l = ls ∧ Mz W w [(gc, 95, #[v])] (⟨26, 1, v, qs.length, qs.map Pt.v⟩ :: rows) gM ob ∧ ∀ q ∈ qs, SZ W rows gM ob q.A q.l
theorem W_of (n : Nat) (h : n < 4294967296) (w : World) : (convert 3 41 (.int .i64 (n : Int))).run Try.prog w = .ok (W (BitVec.ofNat 32 n)) w := by
  have e : (convert 3 41 (.int .i64 (n : Int))).run Try.prog w = .ok (.int .u32 (IntKind.u32.wrap (n : Int))) w := by go_simp
  rw [e, wrap_u32]
  unfold W
  congr 2

/-- Each with its length ahead. -/
def framesL (ls : List (List UInt8)) : List (List UInt8) := ls.flatMap fun l => [len4 l.length, l]
theorem framesL_snoc (ls : List (List UInt8)) (l : List UInt8) : framesL (ls ++ [l]) = framesL ls ++ [len4 l.length, l] := by simp [framesL]
theorem framesL_len (ls : List (List UInt8)) : (framesL ls).length = 2 * ls.length := by
  induction ls with
  | nil => rfl
  | cons l ls ih => simp only [framesL, List.flatMap_cons, List.length_append, List.length_cons, List.length_nil] at ih ⊢; omega
theorem FrX.bel {W w : World} {gc gM : Nat} {ob : Obj} {ls : List (List UInt8)} {rows : List Ro} (h : FrX W w gc gM ob ls rows) : Below W.heap.size W w := by
  obtain ⟨v, qs, _, hm, _⟩ := h.ex
  exact hm.m.bel
theorem FrX.out {W w : World} {gc gM : Nat} {ob : Obj} {ls : List (List UInt8)} {rows : List Ro} (h : FrX W w gc gM ob ls rows) : ∃ A c qs, w.cell? ⟨gc, 0, none⟩ = some (.slice A qs.length c) ∧ qs.map Pt.l = ls ∧ Pts w A qs := by
  obtain ⟨v, qs, e, hm, hq⟩ := h.ex
  obtain ⟨A, c, rfl, _⟩ := own_form (hm.m.row [])
  exact ⟨A, c, qs, (hm.m.blk []).cell 0, e, own_rd (hm.m.row []), fun q h => hm.rd (hq q h) fun y hy => List.mem_cons_of_mem _ hy⟩

end Go.Proofs.Ytnbemfceoianiaa

/- Contracts of mac.Derive, and of the document's filled. -/
namespace Go.Proofs.Ytnbemfceoianiaa
set_option linter.unusedVariables false
set_option linter.unusedSimpArgs false
open Go.RowKit

/-- The document's digest at a table: what it answers. -/
structure RSum (KT : Array Value) : Prop where
  make : ∀ w, Calls Try.prog 9 #[] w fun e w' => e = .returned (.agg KT) ∧ Below w.heap.size w w'
  sum : ∀ (w : World) (A : Option Addr) (c : Nat) (l : List UInt8), RB w w.heap.size A l → l.length ≤ 900000 → Calls Try.prog 52 #[.agg KT, .slice A l.length c] w fun e w' => e = .returned (.agg (b8a (sha l))) ∧ Below w.heap.size w w'
  inf : (Try.prog.info? 45).map (·.size) = some KT.size
  z72 : Z72.size = KT.size
  one : KT.all (·.oneCell') = true
theorem rsum_ex : ∃ KT, RSum KT := by
  obtain ⟨KT, h1, h2, h3, h4, h5⟩ := ref_sum2
  exact ⟨KT, h1, h2, h3, h4, h5⟩
theorem RSum.infL {KT : Array Value} (h : RSum KT) : (Try.prog.info? 45).map (·.size) = some KT.toList.length := by rw [Array.length_toList]; exact h.inf
/-- What is tagged in deriving. -/
def frameB (ls : List (List UInt8)) : List UInt8 := (framesL ls).flatten
theorem catP_map (qs : List Pt) : catP qs = (qs.map Pt.l).flatten := by simp [catP, List.flatMap]
theorem frameB_len (ls : List (List UInt8)) (N : Nat) (h : ∀ l ∈ ls, l.length ≤ N) : (frameB ls).length ≤ ls.length * (4 + N) := by
  induction ls with
  | nil => simp [frameB, framesL]
  | cons l ls ih =>
    have h1 := h l (List.mem_cons_self ..)
    have h2 := ih fun x hx => h x (List.mem_cons_of_mem _ hx)
    simp only [frameB, framesL, List.flatMap_cons, List.flatten_append, List.length_append, List.flatten_cons, List.flatten_nil, List.length_nil, List.length_cons] at h2 ⊢
    have h3 : (len4 l.length).length = 4 := rfl
    rw [Nat.add_mul]
    omega


structure FlR (w wr : World) (key : List UInt8) (v1 : Value) : Prop where
  m : ∃ A c xb xr, v1 = .slice A (keyOf key).length c ∧ Mst w wr xb xr ∧ Src w xb xr 1 A (keyOf key).length (by8 (keyOf key))
theorem fillB_get (key : List UInt8) (y : UInt8) {k : Nat} (h : k < 64) : (fillB key y)[k]? = some ((fillZ key).getD k 0 ^^^ y) := by
  unfold fillB
  rw [List.getElem?_map, getD_at (by rw [fillZ_len]; exact h)]; rfl
theorem fillZ_lo (key : List UInt8) {k : Nat} (h : k < (keyOf key).length) : (fillZ key).getD k 0 = (keyOf key).getD k 0 := by
  unfold fillZ
  rw [List.getD_eq_getElem?_getD, List.getElem?_append_left h, List.getD_eq_getElem?_getD]
theorem fillZ_hi (key : List UInt8) {k : Nat} (h : ¬ k < (keyOf key).length) : (fillZ key).getD k 0 = 0 := by
  unfold fillZ
  rw [List.getD_eq_getElem?_getD, List.getElem?_append_right (by omega), List.getElem?_replicate]
  split <;> rfl
theorem upB_getD (L : List UInt8) (k : Nat) : (upB L k).getD k 0 = 0 := by
  unfold upB
  rw [List.getD_eq_getElem?_getD]
  by_cases h : k ≤ L.length
  · rw [List.getElem?_append_right (by simp; omega), List.getElem?_replicate]
    split <;> rfl
  · rw [List.getElem?_eq_none (by simp; omega)]; rfl

set_option maxRecDepth 100000 in
set_option maxHeartbeats 1000000 in
theorem rfilled_any (KT : Array Value) (hKT : RSum KT) (w : World) (A : Option Addr) (c : Nat) (key : List UInt8) (y : UInt8) (hr : RB w w.heap.size A key) (hk : key.length ≤ 100000) :
    Calls Try.prog 53 #[.agg KT, .slice A key.length c, .int .u8 (y.toNat : Int)] w fun e w' => ∃ g, e = .returned (.slice (some ⟨g, 0, none⟩) 64 64) ∧ Fresh w w' 5 1 (.slice (some ⟨g, 0, none⟩) 64 64) 64 (by8 (fillB key y)) := by
  have HR := Lib.hid hr
  have HKT := Lib.hid hKT
  obtain ⟨n, hn⟩ : ∃ n, key.length = n := ⟨_, rfl⟩
  have HN := Lib.hid hn
  have hS := hKT.sum
  rw [hn] at hk ⊢
  have m0 := (Mst.start w).new 45 KT
  have M0 := Lib.hid m0
  have hmk : ∀ w, (Instr.makeSlice 26 (.int .i64 64) (.int .i64 64)).run Try.prog w = .ok (.slice (some ⟨w.heap.size, 0, none⟩) 64 64) (w.alloc (.cells z64 5)) := fun w => make_u8 64 (by decide) w
  have L0 := Lib.hid (m0.blk []).rangeL
  have HS0 := Lib.hid (show ∀ w', Below w.heap.size w w' → Calls Try.prog 52 #[.agg KT, .slice A n c] w' fun e w2 => e = .returned (.agg (b8a (sha key))) ∧ Below w'.heap.size w' w2 from fun w' hb => by
    have := hS w' A c key ((hr.below hb).more hb.size) (by omega)
    rw [hn] at this
    exact this)
  clear hr hn m0 hKT hS
  go_enter Try.func53, Try.ntmps53
  go_upto_if 12 with fail
  go_cut [1] (fun s1 wr => FlR w wr key s1)
  case first =>
    by_cases h64 : 64 < n
    · have i1 : (64 : Int) < n := by omega
      have hK : keyOf key = sha key := by unfold keyOf; rw [if_pos (by rw [HN.out]; exact h64)]
      obtain ⟨K, hK2⟩ : ∃ K, sha key = K := ⟨_, rfl⟩
      have hKl : K.length = 32 := by rw [← hK2]; rfl
      rw [hK2] at hK HS0
      have HK := Lib.hid hK
      have HKL := Lib.hid hKl
      clear hK hKl hK2
      go_wp2_with (first | refine wpList_load_mid rfl _ _ rfl w.heap.size 0 rfl KT.toList _ L0.out Try.underlying45 rfl HKT.out.infL ?_)
      refine (HS0.out _ M0.out.bel).mono ?_
      rintro e w2 ⟨rfl, hb2⟩
      have m3 := (M0.out.below hb2).arr32 K
      have M3 := Lib.hid m3
      clear hb2 m3
      go_wp2_with (first | refine wpList_store_row rfl _ _ _ rfl w2.heap.size (b8a K) rfl rfl 27 _ (Bk.mk_ _ _ _) (info_k HKL.out) (y32_k HKL.out) (b8a_one K) ?_)
      go_meet
      exact ⟨some ⟨w2.heap.size, 0, none⟩, 32, _, _, by rw [HK.out, HKL.out], M3.out, by rw [HK.out]; exact Src.arr (List.mem_cons_self ..) rfl⟩
    · have i1 : ¬ (64 : Int) < n := by omega
      have hK : keyOf key = key := by unfold keyOf; rw [if_neg (by rw [HN.out]; exact h64)]
      have HK := Lib.hid hK
      clear hK
      go_wp2_with fail
      go_meet
      exact ⟨A, c, _, _, by rw [HK.out, HN.out], M0.out, by rw [HK.out]; exact Src.old HR.out⟩
  case rest =>
    obtain ⟨A6, c6, xb, xr, rfl, hm, hs⟩ := hcut.m
    have hkl := keyOf_len key
    obtain ⟨n6, hn6⟩ : ∃ n, (keyOf key).length = n := ⟨_, rfl⟩
    rw [hn6] at hs hkl ⊢
    have HN6 := Lib.hid hn6
    have HS := Lib.hid hs
    have m1 := hm.new 5 z64
    obtain ⟨g8, hg8⟩ : ∃ g, wc.heap.size = g := ⟨_, rfl⟩
    rw [hg8] at m1
    have M1 := Lib.hid (show Mst w _ ((g8, 5, b8a (upB (fillB key y) 0)) :: xb) xr from by
      rw [show upB (fillB key y) 0 = List.replicate 64 0 by simp [upB, fillB_len]]; exact m1)
    have ST := fun (x : UInt8) p w => Bv_store (P := Try.prog) x w p
    have SC := fun x => (Value.cells.eq_def (Bv x)).symm.trans (Bv_cells x)
    have BX := fun x y w => Bv_xor (P := Try.prog) 5 x y w
    rw [Bv_eq]
    clear hm hs hn6 hcut m1
    go_wp2_with fail
    go_loopg [9] 64 (fun gk s9 wr => ∃ k : Nat, k + gk = 64 ∧ s9 = .int .i64 k ∧ Mst w wr ((g8, 5, b8a (upB (fillB key y) k)) :: xb) xr)
    case atStart => exact ⟨0, by omega, rfl, M1.out⟩
    case round =>
      obtain ⟨k, hk, rfl, hm⟩ := hrel
      by_cases hlt : k < 64
      · have f3 := (hm.blk []).fr k
        have hc3 := (hm.blk []).cell k
        rw [b8a_get (by rw [upB_len _ (by rw [fillB_len]; omega), fillB_len]; exact hlt), upB_getD] at hc3
        have c3 : wr.cell? ⟨g8, k, none⟩ = some (Bv 0) := hc3
        obtain ⟨x, hx⟩ : ∃ x, (fillZ key).getD k 0 = x := ⟨_, rfl⟩
        have hs := upB_set (fillB key y) (fillB_get key y hlt)
        rw [hx] at hs
        have HX := Lib.hid hs
        have HM := Lib.hid hm
        clear hs hc3
        by_cases h6 : k < n6
        · have i1 : (k : Int) < n6 := by omega
          obtain ⟨b6, o6, rfl, hb6, hc6⟩ := (hm.src (HS.out.cb _)).2 (by omega)
          have c6 : wr.cell? ⟨b6, o6 + k, none⟩ = some (Bv x) := hc6 k _ (by
            rw [← hx, fillZ_lo _ (by rw [HN6.out]; exact h6), by8_getD (by rw [HN6.out]; exact h6)]; rfl)
          clear hx hm hc6
          go_wp2
          go_roundg (64 - (k + 1))
          case measure => exact meas hk hlt
          case rel => exact ⟨k + 1, meas2 hlt, by go_num, by
            have := (HM.out.put [] k (Bv x)).put [] k (Bv (x ^^^ y))
            rw [show Bv (x ^^^ y) = .int .u8 ((x ^^^ y).toNat : Int) from rfl, show Bv x = .int .u8 (x.toNat : Int) from rfl, b8a_set, b8a_set, List.set_set, HX.out] at this
            exact this⟩
        · have i1 : ¬ (k : Int) < n6 := by omega
          have hx0 : x = 0 := by rw [← hx, fillZ_hi _ (by rw [HN6.out]; exact h6)]
          subst hx0
          clear hx hm
          go_wp2
          go_roundg (64 - (k + 1))
          case measure => exact meas hk hlt
          case rel => exact ⟨k + 1, meas2 hlt, by go_num, by
            have hx := HX.out
            rw [UInt8.zero_xor] at hx
            have := HM.out.put [] k (Bv y)
            rw [show Bv y = .int .u8 (y.toNat : Int) from rfl, b8a_set, hx] at this
            exact this⟩
      · obtain rfl : k = 64 := by omega
        rw [show upB (fillB key y) 64 = fillB key y by simp [upB, fillB_len, List.take_of_length_le]] at hm
        have HM := Lib.hid hm
        clear hm hlt hk
        go_wp2_with fail
        go_ret
        exact ⟨g8, rfl, HM.out.bel, HM.out.fullRow (by rw [b8a_size, fillB_len]) (by simp [b8a])⟩
end Go.Proofs.Ytnbemfceoianiaa

/- Contract of the document's Tag. -/
namespace Go.Proofs.Ytnbemfceoianiaa
set_option linter.unusedVariables false
set_option linter.unusedSimpArgs false
open Go.RowKit

section
variable {P : Program} {w W : World} {bl : List (Nat × TypeId × Array Value)}
theorem step_appE {ops : Array Oper} {o : Oper} {a : Act} {K : Act → World → Prop} {Q : Exit → Act → World → Prop} {E : Prop} (hgd : o.guard = none) (s x : Operand) (t : TypeId)
    (ho : o.op = .call { callee := .builtin .append, args := #[s, x], argTypes := #[t, t] })
    (pre : List Ro) {post : List Ro} {e : TypeId} {size n bytes : Nat} {v : Value} {xs : List Value} (hm : Mst W w bl (pre ++ ⟨e, size, v, n, xs⟩ :: post)) (hE : El P t e size bytes) (hs : a.eval s = v)
    (B : Nat) (A : Option Addr) (m c : Nat) (news : List Value) (hx : a.eval x = .slice A m c) (hr : Rd w B size A m news) (h1 : ∀ u ∈ news, u.oneCell' = true)
    (h63 : n + m ≤ maxLen) (hbytes : (n + m) * bytes ≤ 140737488355328)
    (h : ∀ A' c' w' N X, N = n + m → X = xs ++ news → Mst W w' bl (pre ++ ⟨e, size, .slice A' N c', N, X⟩ :: post) → K (a.put o.dst (.slice A' N c')) w') :
    if Region.wanted o (yielded ops a.tmps) = true then Oper.wp P o a w K Q else E :=
  step_appM hgd s x t ho pre hm hE hs B A m c news hx hr h1 h63 hbytes fun A' c' w' hm' => h A' c' w' _ _ rfl rfl hm'
theorem wpList_appE {ops : Array Oper} {rest : List Oper} {o : Oper} {a : Act} {Q : Exit → Act → World → Prop} (hgd : o.guard = none) (s x : Operand) (t : TypeId)
    (ho : o.op = .call { callee := .builtin .append, args := #[s, x], argTypes := #[t, t] })
    (pre : List Ro) {post : List Ro} {e : TypeId} {size n bytes : Nat} {v : Value} {xs : List Value} (hm : Mst W w bl (pre ++ ⟨e, size, v, n, xs⟩ :: post)) (hE : El P t e size bytes) (hs : a.eval s = v)
    (B : Nat) (A : Option Addr) (m c : Nat) (news : List Value) (hx : a.eval x = .slice A m c) (hr : Rd w B size A m news) (h1 : ∀ u ∈ news, u.oneCell' = true)
    (h63 : n + m ≤ maxLen) (hbytes : (n + m) * bytes ≤ 140737488355328)
    (h : ∀ A' c' w' N X, N = n + m → X = xs ++ news → Mst W w' bl (pre ++ ⟨e, size, .slice A' N c', N, X⟩ :: post) → wpList P ops Q rest (a.put o.dst (.slice A' N c')) w') : wpList P ops Q (o :: rest) a w :=
  wpList_appM hgd s x t ho pre hm hE hs B A m c news hx hr h1 h63 hbytes fun A' c' w' hm' => h A' c' w' _ _ rfl rfl hm'
theorem Mst.newE {w2 : World} {ow : List Ro} {t : TypeId} {cs : Array Value} (h : Mst W w bl ow) (hw : w.alloc (.cells cs t) = w2) : Mst W w2 ((w.heap.size, t, cs) :: bl) ow := by
  subst hw
  exact h.new t cs
end
theorem RSum.at_ {KT : Array Value} (h : RSum KT) {w : World} {A : Option Addr} {c N : Nat} {X : List Value} {l K : List UInt8} (hr : Rd w w.heap.size 1 A N X) (hN : N = l.length) (hX : X = by8 l) (hl : l.length ≤ 900000) (hK : sha l = K) :
    Calls Try.prog 52 #[.agg KT, .slice A N c] w fun e w' => e = .returned (.agg (b8a K)) ∧ Below w.heap.size w w' := by
  subst hN hX hK
  exact h.sum w A c l hr hl

structure TgR (w wr : World) (KT : Array Value) (K1 : List UInt8) (s7 : Value) : Prop where
  m : ∃ g7, s7 = .pointer (some ⟨g7, 0, none⟩) ∧ Mst w wr [(g7, 27, b8a K1), (w.heap.size + 1, 27, Y32), (w.heap.size, 45, KT)] []
set_option maxRecDepth 100000 in
set_option maxHeartbeats 2000000 in
theorem reftag_any (KT : Array Value) (hKT : RSum KT) (w : World) (A : Option Addr) (c : Nat) (key : List UInt8) (hr : RB w w.heap.size A key) (hk : key.length ≤ 100000) (A2 : Option Addr) (c2 : Nat) (b : List UInt8) (hb : RB w w.heap.size A2 b) (hbl : b.length ≤ 800000) :
    Calls Try.prog 30 #[.agg KT, .slice A key.length c, .slice A2 b.length c2] w fun e w' => e = .returned (.agg (b8a (macT key b))) ∧ Below w.heap.size w w' := by
  obtain ⟨K1, hK1⟩ : ∃ K, sha (fillB key 54 ++ b) = K := ⟨_, rfl⟩
  have hKl1 : K1.length = 32 := by rw [← hK1]; rfl
  obtain ⟨K2, hK2⟩ : ∃ K, macT key b = K := ⟨_, rfl⟩
  have hKl2 : K2.length = 32 := by rw [← hK2]; rfl
  rw [hK2]
  have hK3 : sha (fillB key 92 ++ K1) = K2 := by rw [← hK2, ← hK1]; rfl
  have KL1 := Lib.hid hKl1
  have KL2 := Lib.hid hKl2
  have HKT := Lib.hid hKT
  have HF1 := Lib.hid (show ∀ (w' : World), Below w.heap.size w w' → Calls Try.prog 53 #[.agg KT, .slice A key.length c, .int .u8 54] w' fun e w2 => ∃ g, e = .returned (.slice (some ⟨g, 0, none⟩) 64 64) ∧ Fresh w' w2 5 1 (.slice (some ⟨g, 0, none⟩) 64 64) 64 (by8 (fillB key 54)) from fun (w' : World) (hb : Below w.heap.size w w') => rfilled_any KT hKT w' A c key 54 ((hr.below hb).more hb.size) hk)
  have HF2 := Lib.hid (show ∀ (w' : World), Below w.heap.size w w' → Calls Try.prog 53 #[.agg KT, .slice A key.length c, .int .u8 92] w' fun e w2 => ∃ g, e = .returned (.slice (some ⟨g, 0, none⟩) 64 64) ∧ Fresh w' w2 5 1 (.slice (some ⟨g, 0, none⟩) 64 64) 64 (by8 (fillB key 92)) from fun (w' : World) (hb : Below w.heap.size w w') => rfilled_any KT hKT w' A c key 92 ((hr.below hb).more hb.size) hk)
  have m1 := ((Mst.start w).new 45 KT).new 27 Y32
  rw [show (w.alloc (.cells KT 45)).heap.size = w.heap.size + 1 by simp] at m1
  have Mq := Lib.hid m1.drew
  obtain ⟨L1, hL1⟩ : ∃ L, fillB key 54 = L := ⟨_, rfl⟩
  obtain ⟨L2, hL2⟩ : ∃ L, fillB key 92 = L := ⟨_, rfl⟩
  have hl1 : L1.length = 64 := by rw [← hL1, fillB_len]
  have hl2 : L2.length = 64 := by rw [← hL2, fillB_len]
  rw [hL1] at HF1 hK1
  rw [hL2] at HF2 hK3
  obtain ⟨N, hN⟩ : ∃ n, key.length = n := ⟨_, rfl⟩
  obtain ⟨n, hN2⟩ : ∃ n, b.length = n := ⟨_, rfl⟩
  have HBB := Lib.hid (show Src w [] [] 1 A2 n (by8 b) from by rw [← hN2]; exact Src.old hb)
  rw [hN] at HF1 HF2 hk ⊢
  rw [hN2] at hbl ⊢
  have LL1 := Lib.hid hl1
  have LL2 := Lib.hid hl2
  have HN2 := Lib.hid hN2
  have HK1 := Lib.hid hK1
  have HK3 := Lib.hid hK3
  have hu : ∃ d, Try.prog.underlying 45 = some d ∧ d.isRow = true := ⟨_, Try.underlying45, rfl⟩
  obtain ⟨d, hu, hd⟩ := hu
  have hki := hKT.infL
  clear hr hb m1 hK1 hK2 hK3 hKl1 hKl2 hL1 hL2 hl1 hl2 hN hN2
  go_enter Try.func30, Try.ntmps30
  go_upto_region 1 with fail
  go_cut [7] (fun s7 wr => TgR w wr KT K1 s7)
  case first =>
    generalize hw0 : World.alloc (World.alloc _ _) _ = w0
    have Mq := Lib.hid (show Mst w w0.drew [(w.heap.size + 1, 27, Y32), (w.heap.size, 45, KT)] [] by rw [← hw0]; exact Mq.out)
    have k0 := (Mq.out.blk [_]).rangeL
    clear hw0
    refine wp_region_held_drew (S := fun w' => w'.rangeAt w.heap.size 0 KT.toList) (by kernel_rfl) ?_ (fun hHeld => ?_)
    · exact k0
    generalize World.drew w0 = w1 at Mq hHeld ⊢
    refine wpAnyH_take (i := 0) rfl (by kernel_rfl) (by kernel_rfl) (by kernel_rfl) (fun _ _ _ h => h) (yieldsIf_load_mid (by rfl) _ _ rfl _ _ rfl _ _ (fun w hw => hw) hu hd hki) (by assumption) ?_
    change wpAnyH _ _ _ _ _ _ _ (Act.put _ (some 8) _) _
    simp only [Act.put, List.setIfInBounds_toArray, List.set_cons_zero, List.set_cons_succ, Array.toArray_toList]
    refine wpAnyH_take (i := 1) rfl (by kernel_rfl) (by kernel_rfl) (by kernel_rfl) (fun _ _ _ h => h) (yieldsIf_load_mid (by rfl) _ _ rfl _ _ rfl _ _ (fun w hw => hw) hu hd hki) (by assumption) ?_
    change wpAnyH _ _ _ _ _ _ _ (Act.put _ (some 9) _) _
    simp only [Act.put, List.setIfInBounds_toArray, List.set_cons_zero, List.set_cons_succ, Array.toArray_toList]
    refine wpAnyH_take (i := 2) (v := ?_) rfl (by kernel_rfl) (by kernel_rfl) (by kernel_rfl) (fun _ _ _ h => h) (Or.inl ⟨by rfl, ?_⟩) (by assumption) ?_
    rotate_left
    · intro w hSw; (try dsimp only at hSw); go_split_ands; go_simp; with_reducible rfl
    change wpAnyH _ _ _ _ _ _ _ (Act.put _ (some 10) _) _
    simp only [Act.put, List.setIfInBounds_toArray, List.set_cons_zero, List.set_cons_succ, Array.toArray_toList]
    refine wpAnyH_take (i := 4) (v := ?_) rfl (by kernel_rfl) (by kernel_rfl) (by kernel_rfl) (fun _ _ _ h => h) (Or.inl ⟨by rfl, ?_⟩) (by assumption) ?_
    rotate_left
    · intro w hSw; (try dsimp only at hSw); go_split_ands; go_simp; with_reducible rfl
    change wpAnyH _ _ _ _ _ _ _ (Act.put _ (some 12) _) _
    simp only [Act.put, List.setIfInBounds_toArray, List.set_cons_zero, List.set_cons_succ, Array.toArray_toList]
    refine wpAnyH_ready (rs := [3, 7]) (by kernel_rfl) (by simp) ?_
    refine (AllReadyH.cons rfl (fun K hK => ?_) (AllReadyH.cons rfl (fun K hK => ?_) AllReadyH.nil))
    · skip
      go_simp
      with_reducible refine (HF1.out _ Mq.out.bel).mono ?_; rintro e wq ⟨g9, rfl, hf⟩; have Mq := Lib.hid (Mq.out.addr hf); clear hf
      go_wp2_with fail
      refine hK.out _ _ (by first | exact (Mq.out.blk [_]).rangeL | exact (Mq.out.blk [_, _]).rangeL) (fun hHeld => ?_)
      clear hK K
      refine wpAnyH_ready (rs := [5, 7]) (by kernel_rfl) (by simp) ?_
      refine (AllReadyH.cons rfl (fun K hK => ?_) (AllReadyH.cons rfl (fun K hK => ?_) AllReadyH.nil))
      · skip
        refine step_appE rfl _ _ 26 rfl [] Mq.out el_u8c rfl _ A2 n c2 (by8 b) rfl (Mq.out.src (HBB.out.sub (fun _ h => nomatch h) (fun _ h => nomatch h))) (by8_one _) (by unfold maxLen; omega) (by omega) ?_; intro A5 c5 wq N5 X5 hn5 hx5 mq; have Mq := Lib.hid mq; have HN5 := Lib.hid hn5; have HX5 := Lib.hid hx5; clear mq hn5 hx5
        refine hK.out _ _ (by first | exact (Mq.out.blk [_]).rangeL | exact (Mq.out.blk [_, _]).rangeL) (fun hHeld => ?_)
        clear hK K
        (try (change wpAnyH _ _ _ _ _ _ _ (Act.put _ (some 13) _) _; simp only [Act.put, List.setIfInBounds_toArray, List.set_cons_zero, List.set_cons_succ, Array.toArray_toList]))
        refine wpAnyH_ready (rs := [6, 7]) (by kernel_rfl) (by simp) ?_
        refine (AllReadyH.cons rfl (fun K hK => ?_) (AllReadyH.cons rfl (fun K hK => ?_) AllReadyH.nil))
        · skip
          go_simp
          with_reducible refine (HKT.out.at_ (Mq.out.src (Mq.out.rowSrc (List.mem_cons_self ..))) (l := L1 ++ b) (by rw [HN5.out, List.length_append, LL1.out, HN2.out]) (by rw [HX5.out, by8_append]) (by rw [List.length_append, LL1.out, HN2.out]; omega) HK1.out).mono ?_; rintro e wq ⟨rfl, hb⟩; have Mq := Lib.hid (Mq.out.below hb); clear hb
          go_wp2_with fail
          refine hK.out _ _ (by first | exact (Mq.out.blk [_]).rangeL | exact (Mq.out.blk [_, _]).rangeL) (fun hHeld => ?_)
          clear hK K
          refine wpAnyH_ready (rs := [7]) (by kernel_rfl) (by simp) ?_
          refine (AllReadyH.cons rfl (fun K hK => ?_) AllReadyH.nil)
          go_simp; generalize hwq : World.alloc _ _ = wq; have Mq := Lib.hid (Mq.out.newE hwq); clear hwq
          refine hK.out _ _ (by first | exact (Mq.out.blk [_]).rangeL | exact (Mq.out.blk [_, _]).rangeL) (fun hHeld => ?_)
          clear hK K
          refine wpAnyH_ready (rs := [8]) (by kernel_rfl) (by simp) ?_
          refine (AllReadyH.cons rfl (fun K hK => ?_) AllReadyH.nil)
          refine step_store_row rfl _ _ _ rfl _ (b8a K1) rfl rfl 27 _ (Mq.out.blk []) (info_k KL1.out) (y32_k KL1.out) (b8a_one K1) ?_; have Mq := Lib.hid (Mst.setRow (bl := []) [] Mq.out (b8a K1))
          refine hK.out _ _ (by first | exact (Mq.out.blk [_]).rangeL | exact (Mq.out.blk [_, _]).rangeL) (fun hHeld => ?_)
          clear hK K
          refine wpAnyH_done (by kernel_rfl) ?_ _
          go_wp2_with fail
          go_meet
          exact ⟨_, rfl, Mq.out.sub (List.Sublist.refl _) (List.nil_sublist _)⟩
        · skip
          go_simp; generalize hwq : World.alloc _ _ = wq; have Mq := Lib.hid (Mq.out.newE hwq); clear hwq
          refine hK.out _ _ (by first | exact (Mq.out.blk [_]).rangeL | exact (Mq.out.blk [_, _]).rangeL) (fun hHeld => ?_)
          clear hK K
          refine wpAnyH_ready (rs := [6]) (by kernel_rfl) (by simp) ?_
          refine (AllReadyH.cons rfl (fun K hK => ?_) AllReadyH.nil)
          go_simp
          with_reducible refine (HKT.out.at_ (Mq.out.src (Mq.out.rowSrc (List.mem_cons_self ..))) (l := L1 ++ b) (by rw [HN5.out, List.length_append, LL1.out, HN2.out]) (by rw [HX5.out, by8_append]) (by rw [List.length_append, LL1.out, HN2.out]; omega) HK1.out).mono ?_; rintro e wq ⟨rfl, hb⟩; have Mq := Lib.hid (Mq.out.below hb); clear hb
          go_wp2_with fail
          refine hK.out _ _ (by first | exact (Mq.out.blk [_]).rangeL | exact (Mq.out.blk [_, _]).rangeL) (fun hHeld => ?_)
          clear hK K
          refine wpAnyH_ready (rs := [8]) (by kernel_rfl) (by simp) ?_
          refine (AllReadyH.cons rfl (fun K hK => ?_) AllReadyH.nil)
          refine step_store_row rfl _ _ _ rfl _ (b8a K1) rfl rfl 27 _ (Mq.out.blk []) (info_k KL1.out) (y32_k KL1.out) (b8a_one K1) ?_; have Mq := Lib.hid (Mst.setRow (bl := []) [] Mq.out (b8a K1))
          refine hK.out _ _ (by first | exact (Mq.out.blk [_]).rangeL | exact (Mq.out.blk [_, _]).rangeL) (fun hHeld => ?_)
          clear hK K
          refine wpAnyH_done (by kernel_rfl) ?_ _
          go_wp2_with fail
          go_meet
          exact ⟨_, rfl, Mq.out.sub (List.Sublist.refl _) (List.nil_sublist _)⟩
      · skip
        go_simp; generalize hwq : World.alloc _ _ = wq; have Mq := Lib.hid (Mq.out.newE hwq); clear hwq
        refine hK.out _ _ (by first | exact (Mq.out.blk [_]).rangeL | exact (Mq.out.blk [_, _]).rangeL) (fun hHeld => ?_)
        clear hK K
        refine wpAnyH_ready (rs := [5]) (by kernel_rfl) (by simp) ?_
        refine (AllReadyH.cons rfl (fun K hK => ?_) AllReadyH.nil)
        refine step_appE rfl _ _ 26 rfl [] Mq.out el_u8c rfl _ A2 n c2 (by8 b) rfl (Mq.out.src (HBB.out.sub (fun _ h => nomatch h) (fun _ h => nomatch h))) (by8_one _) (by unfold maxLen; omega) (by omega) ?_; intro A5 c5 wq N5 X5 hn5 hx5 mq; have Mq := Lib.hid mq; have HN5 := Lib.hid hn5; have HX5 := Lib.hid hx5; clear mq hn5 hx5
        refine hK.out _ _ (by first | exact (Mq.out.blk [_]).rangeL | exact (Mq.out.blk [_, _]).rangeL) (fun hHeld => ?_)
        clear hK K
        (try (change wpAnyH _ _ _ _ _ _ _ (Act.put _ (some 13) _) _; simp only [Act.put, List.setIfInBounds_toArray, List.set_cons_zero, List.set_cons_succ, Array.toArray_toList]))
        refine wpAnyH_ready (rs := [6]) (by kernel_rfl) (by simp) ?_
        refine (AllReadyH.cons rfl (fun K hK => ?_) AllReadyH.nil)
        go_simp
        with_reducible refine (HKT.out.at_ (Mq.out.src (Mq.out.rowSrc (List.mem_cons_self ..))) (l := L1 ++ b) (by rw [HN5.out, List.length_append, LL1.out, HN2.out]) (by rw [HX5.out, by8_append]) (by rw [List.length_append, LL1.out, HN2.out]; omega) HK1.out).mono ?_; rintro e wq ⟨rfl, hb⟩; have Mq := Lib.hid (Mq.out.below hb); clear hb
        go_wp2_with fail
        refine hK.out _ _ (by first | exact (Mq.out.blk [_]).rangeL | exact (Mq.out.blk [_, _]).rangeL) (fun hHeld => ?_)
        clear hK K
        refine wpAnyH_ready (rs := [8]) (by kernel_rfl) (by simp) ?_
        refine (AllReadyH.cons rfl (fun K hK => ?_) AllReadyH.nil)
        refine step_store_row rfl _ _ _ rfl _ (b8a K1) rfl rfl 27 _ (Mq.out.blk []) (info_k KL1.out) (y32_k KL1.out) (b8a_one K1) ?_; have Mq := Lib.hid (Mst.setRow (bl := []) [] Mq.out (b8a K1))
        refine hK.out _ _ (by first | exact (Mq.out.blk [_]).rangeL | exact (Mq.out.blk [_, _]).rangeL) (fun hHeld => ?_)
        clear hK K
        refine wpAnyH_done (by kernel_rfl) ?_ _
        go_wp2_with fail
        go_meet
        exact ⟨_, rfl, Mq.out.sub (List.Sublist.refl _) (List.nil_sublist _)⟩
    · skip
      go_simp; generalize hwq : World.alloc _ _ = wq; have Mq := Lib.hid (Mq.out.newE hwq); clear hwq
      refine hK.out _ _ (by first | exact (Mq.out.blk [_]).rangeL | exact (Mq.out.blk [_, _]).rangeL) (fun hHeld => ?_)
      clear hK K
      refine wpAnyH_ready (rs := [3]) (by kernel_rfl) (by simp) ?_
      refine (AllReadyH.cons rfl (fun K hK => ?_) AllReadyH.nil)
      go_simp
      with_reducible refine (HF1.out _ Mq.out.bel).mono ?_; rintro e wq ⟨g9, rfl, hf⟩; have Mq := Lib.hid (Mq.out.addr hf); clear hf
      go_wp2_with fail
      refine hK.out _ _ (by first | exact (Mq.out.blk [_]).rangeL | exact (Mq.out.blk [_, _]).rangeL) (fun hHeld => ?_)
      clear hK K
      refine wpAnyH_ready (rs := [5]) (by kernel_rfl) (by simp) ?_
      refine (AllReadyH.cons rfl (fun K hK => ?_) AllReadyH.nil)
      refine step_appE rfl _ _ 26 rfl [] Mq.out el_u8c rfl _ A2 n c2 (by8 b) rfl (Mq.out.src (HBB.out.sub (fun _ h => nomatch h) (fun _ h => nomatch h))) (by8_one _) (by unfold maxLen; omega) (by omega) ?_; intro A5 c5 wq N5 X5 hn5 hx5 mq; have Mq := Lib.hid mq; have HN5 := Lib.hid hn5; have HX5 := Lib.hid hx5; clear mq hn5 hx5
      refine hK.out _ _ (by first | exact (Mq.out.blk [_]).rangeL | exact (Mq.out.blk [_, _]).rangeL) (fun hHeld => ?_)
      clear hK K
      (try (change wpAnyH _ _ _ _ _ _ _ (Act.put _ (some 13) _) _; simp only [Act.put, List.setIfInBounds_toArray, List.set_cons_zero, List.set_cons_succ, Array.toArray_toList]))
      refine wpAnyH_ready (rs := [6]) (by kernel_rfl) (by simp) ?_
      refine (AllReadyH.cons rfl (fun K hK => ?_) AllReadyH.nil)
      go_simp
      with_reducible refine (HKT.out.at_ (Mq.out.src (Mq.out.rowSrc (List.mem_cons_self ..))) (l := L1 ++ b) (by rw [HN5.out, List.length_append, LL1.out, HN2.out]) (by rw [HX5.out, by8_append]) (by rw [List.length_append, LL1.out, HN2.out]; omega) HK1.out).mono ?_; rintro e wq ⟨rfl, hb⟩; have Mq := Lib.hid (Mq.out.below hb); clear hb
      go_wp2_with fail
      refine hK.out _ _ (by first | exact (Mq.out.blk [_]).rangeL | exact (Mq.out.blk [_, _]).rangeL) (fun hHeld => ?_)
      clear hK K
      refine wpAnyH_ready (rs := [8]) (by kernel_rfl) (by simp) ?_
      refine (AllReadyH.cons rfl (fun K hK => ?_) AllReadyH.nil)
      refine step_store_row rfl _ _ _ rfl _ (b8a K1) rfl rfl 27 _ (Mq.out.blk []) (info_k KL1.out) (y32_k KL1.out) (b8a_one K1) ?_; have Mq := Lib.hid (Mst.setRow (bl := []) [] Mq.out (b8a K1))
      refine hK.out _ _ (by first | exact (Mq.out.blk [_]).rangeL | exact (Mq.out.blk [_, _]).rangeL) (fun hHeld => ?_)
      clear hK K
      refine wpAnyH_done (by kernel_rfl) ?_ _
      go_wp2_with fail
      go_meet
      exact ⟨_, rfl, Mq.out.sub (List.Sublist.refl _) (List.nil_sublist _)⟩
  case rest =>
    obtain ⟨g7, rfl, mq⟩ := hcut.m
    have Mq := Lib.hid mq.drew
    have k0 := (Mq.out.blk [_, _]).rangeL
    clear mq hcut
    go_wp2_with fail
    refine wp_region_held_drew (S := fun w' => w'.rangeAt w.heap.size 0 KT.toList) (by kernel_rfl) ?_ (fun hHeld => ?_)
    · exact k0
    refine wpAnyH_take (i := 0) rfl (by kernel_rfl) (by kernel_rfl) (by kernel_rfl) (fun _ _ _ h => h) (yieldsIf_load_mid (by rfl) _ _ rfl _ _ rfl _ _ (fun w hw => hw) hu hd hki) (by assumption) ?_
    change wpAnyH _ _ _ _ _ _ _ (Act.put _ (some 15) _) _
    simp only [Act.put, List.setIfInBounds_toArray, List.set_cons_zero, List.set_cons_succ, Array.toArray_toList]
    refine wpAnyH_take (i := 1) rfl (by kernel_rfl) (by kernel_rfl) (by kernel_rfl) (fun _ _ _ h => h) (yieldsIf_load_mid (by rfl) _ _ rfl _ _ rfl _ _ (fun w hw => hw) hu hd hki) (by assumption) ?_
    change wpAnyH _ _ _ _ _ _ _ (Act.put _ (some 16) _) _
    simp only [Act.put, List.setIfInBounds_toArray, List.set_cons_zero, List.set_cons_succ, Array.toArray_toList]
    refine wpAnyH_take (i := 2) (v := ?_) rfl (by kernel_rfl) (by kernel_rfl) (by kernel_rfl) (fun _ _ _ h => h) (Or.inl ⟨by rfl, ?_⟩) (by assumption) ?_
    rotate_left
    · intro w hSw; (try dsimp only at hSw); go_split_ands; go_simp; with_reducible rfl
    change wpAnyH _ _ _ _ _ _ _ (Act.put _ (some 17) _) _
    simp only [Act.put, List.setIfInBounds_toArray, List.set_cons_zero, List.set_cons_succ, Array.toArray_toList]
    refine wpAnyH_take (i := 4) (v := ?_) rfl (by kernel_rfl) (by kernel_rfl) (by kernel_rfl) (fun _ _ _ h => h) (Or.inl ⟨by rfl, ?_⟩) (by assumption) ?_
    rotate_left
    · intro w hSw; (try dsimp only at hSw); go_split_ands; go_simp; with_reducible rfl
    change wpAnyH _ _ _ _ _ _ _ (Act.put _ (some 19) _) _
    simp only [Act.put, List.setIfInBounds_toArray, List.set_cons_zero, List.set_cons_succ, Array.toArray_toList]
    refine wpAnyH_ready (rs := [3]) (by kernel_rfl) (by simp) ?_
    refine (AllReadyH.cons rfl (fun K hK => ?_) AllReadyH.nil)
    go_simp
    with_reducible refine (HF2.out _ Mq.out.bel).mono ?_; rintro e wq ⟨g9, rfl, hf⟩; have Mq := Lib.hid (Mq.out.addr hf); clear hf
    go_wp2_with fail
    refine hK.out _ _ (by first | exact (Mq.out.blk [_, _]).rangeL) (fun hHeld => ?_)
    clear hK K
    refine wpAnyH_ready (rs := [5]) (by kernel_rfl) (by simp) ?_
    refine (AllReadyH.cons rfl (fun K hK => ?_) AllReadyH.nil)
    refine step_appE rfl _ _ 26 rfl [] Mq.out el_u8c rfl _ (some ⟨g7, 0, none⟩) 32 32 (by8 K1) rfl (Mq.out.src (Src.arr (List.mem_cons_self ..) KL1.out)) (by8_one _) (by decide) (by omega) ?_; intro A5 c5 wq N5 X5 hn5 hx5 mq; have Mq := Lib.hid mq; have HN5 := Lib.hid hn5; have HX5 := Lib.hid hx5; clear mq hn5 hx5
    refine hK.out _ _ (by first | exact (Mq.out.blk [_, _]).rangeL) (fun hHeld => ?_)
    clear hK K
    (try (change wpAnyH _ _ _ _ _ _ _ (Act.put _ (some 20) _) _; simp only [Act.put, List.setIfInBounds_toArray, List.set_cons_zero, List.set_cons_succ, Array.toArray_toList]))
    refine wpAnyH_ready (rs := [6]) (by kernel_rfl) (by simp) ?_
    refine (AllReadyH.cons rfl (fun K hK => ?_) AllReadyH.nil)
    go_simp
    with_reducible refine (HKT.out.at_ (Mq.out.src (Mq.out.rowSrc (List.mem_cons_self ..))) (l := L2 ++ K1) (by rw [HN5.out, List.length_append, LL2.out, KL1.out]) (by rw [HX5.out, by8_append]) (by rw [List.length_append, LL2.out, KL1.out]; decide) HK3.out).mono ?_; rintro e wq ⟨rfl, hb⟩; have Mq := Lib.hid (Mq.out.below hb); clear hb
    go_wp2_with fail
    refine hK.out _ _ (by first | exact (Mq.out.blk [_, _]).rangeL) (fun hHeld => ?_)
    clear hK K
    refine wpAnyH_ready (rs := [7]) (by kernel_rfl) (by simp) ?_
    refine (AllReadyH.cons rfl (fun K hK => ?_) AllReadyH.nil)
    refine step_store_row rfl _ _ _ rfl (w.heap.size + 1) (b8a K2) rfl rfl 27 _ (Mq.out.blk [_]) (info_k KL2.out) (y32_k KL2.out) (b8a_one K2) ?_; have Mq := Lib.hid (Mst.setRow (bl := []) [_] Mq.out (b8a K2))
    refine hK.out _ _ (by first | exact (Mq.out.blk [_, _]).rangeL) (fun hHeld => ?_)
    clear hK K
    refine wpAnyH_done (by kernel_rfl) ?_ _
    go_wp2_with fail
    exact bodyPost_ret (results_cell_row rfl _ _ (w.heap.size + 1) 27 _ (0, 0) _ rfl (Mq.out.blk [_]) Try.underlying27 rfl (info_k KL2.out)) rfl ⟨rfl, Mq.out.bel⟩
end Go.Proofs.Ytnbemfceoianiaa

/- Contracts of the document's Frame and Derive. -/
namespace Go.Proofs.Ytnbemfceoianiaa
set_option linter.unusedVariables false
set_option linter.unusedSimpArgs false
open Go.RowKit

theorem frameB_take {ps : List Pt} {k : Nat} {p : Pt} (h : ps[k]? = some p) : frameB ((ps.take (k + 1)).map Pt.l) = frameB ((ps.take k).map Pt.l) ++ len4 p.l.length ++ p.l := by
  have e2 : ps.take (k + 1) = ps.take k ++ [p] := by
    rw [List.take_add_one, h]; rfl
  rw [e2, List.map_append]
  show (framesL (_ ++ [p.l])).flatten = _
  rw [framesL_snoc]
  simp [frameB]
theorem frameP_len (ps : List Pt) (M : Nat) (h : ∀ p ∈ ps, p.l.length ≤ M) (k : Nat) : (frameB ((ps.take k).map Pt.l)).length ≤ ps.length * (4 + M) := by
  have := frameB_len ((ps.take k).map Pt.l) M (by
    intro l hl
    obtain ⟨p, hp, rfl⟩ := List.mem_map.1 hl
    exact h p (List.mem_of_mem_take hp))
  refine Nat.le_trans this (Nat.mul_le_mul_right _ ?_)
  rw [List.length_map, List.length_take]
  omega
theorem len4_cells (m : Nat) (h : m < 4294967296) : [Value.int .u8 ((m : Int) / 16777216), .int .u8 ((m : Int) / 65536 % 256), .int .u8 ((m : Int) / 256 % 256), .int .u8 ((m : Int) % 256)] = by8 (len4 m) := by
  have e : ∀ k : Nat, (((UInt8.ofNat (m >>> k)).toNat : Nat) : Int) = (m : Int) / ((2 ^ k : Nat) : Int) % 256 := fun k => by
    rw [UInt8.toNat_ofNat', Nat.shiftRight_eq_div_pow]
    omega
  have e0 : (((UInt8.ofNat m).toNat : Nat) : Int) = (m : Int) % 256 := by
    rw [UInt8.toNat_ofNat']
    omega
  have e24 := e 24
  have e16 := e 16
  have e8 := e 8
  have d24 : (m : Int) / 16777216 % 256 = (m : Int) / 16777216 := by omega
  simp only [Nat.reducePow, Int.cast_ofNat_Int] at e24 e16 e8
  rw [d24] at e24
  simp only [len4, by8, List.map_cons, List.map_nil, e0, e24, e16, e8]
structure FmR (w wr : World) (v : Value) (l : List UInt8) : Prop where
  m : Mst w wr [] [⟨5, 1, v, l.length, by8 l⟩]
end Go.Proofs.Ytnbemfceoianiaa

/- Contract of the document's Derive. -/
namespace Go.Proofs.Ytnbemfceoianiaa
set_option linter.unusedVariables false
set_option linter.unusedSimpArgs false
open Go.RowKit

/-- '[]byte(s)'. -/
theorem conv_ex (s : ByteArray) : ∃ (C : World → Nat) (ob : World → Obj), (∀ w, (convert 9 26 (.string s)).run Try.prog w = .ok (.slice (some ⟨w.heap.size, 0, none⟩) s.size (C w)) (w.drew.alloc (ob w))) ∧
    ∀ w, ∃ (cs : Array Value) (e : TypeId) (z : Nat × Nat), ob w = .cells cs e z ∧ ∀ (j : Nat) (u : Value), (by8 s.data.toList)[j]? = some u → cs[j]? = some u := by
  refine ⟨fun w => grownCap w s.size 0 5, fun w => .cells (bytesRow s (grownCap w s.size 0 5)) 5 ((bytesRow s (grownCap w s.size 0 5)).size, (bytesRow s (grownCap w s.size 0 5)).size + 1), fun w => ?_, fun w => ⟨_, _, _, rfl, fun j u hu => ?_⟩⟩
  · exact run_bytes_of_string (P := Try.prog) w 9 26 5 s Try.underlying9 Try.underlying26 Try.underlying5
  · have hj : j < s.data.size := by
      have := (List.getElem?_eq_some_iff.1 hu).1
      rw [by8_length, Array.length_toList] at this
      exact this
    rw [bytesRow_at s _ j hj, ← hu, by8_get (b := s.data[j]) (by simp [hj])]
theorem wpList_appGE {P : Program} {w W : World} {bl : List (Nat × TypeId × Array Value)} {ops : Array Oper} {rest : List Oper} {o : Oper} {a : Act} {Q : Exit → Act → World → Prop} (hw : Region.wanted o (yielded ops a.tmps) = true) (s x : Operand) (t : TypeId)
    (ho : o.op = .call { callee := .builtin .append, args := #[s, x], argTypes := #[t, t] })
    (pre : List Ro) {post : List Ro} {e : TypeId} {size n bytes : Nat} {v : Value} {xs : List Value} (hm : Mst W w bl (pre ++ ⟨e, size, v, n, xs⟩ :: post)) (hE : El P t e size bytes) (hs : a.eval s = v)
    (B : Nat) (A : Option Addr) (m c : Nat) (news : List Value) (hx : a.eval x = .slice A m c) (hr : Rd w B size A m news) (h1 : ∀ u ∈ news, u.oneCell' = true)
    (h63 : n + m ≤ maxLen) (hbytes : (n + m) * bytes ≤ 140737488355328)
    (h : ∀ A' c' w' N X, N = n + m → X = xs ++ news → Mst W w' bl (pre ++ ⟨e, size, .slice A' N c', N, X⟩ :: post) → wpList P ops Q rest (a.put o.dst (.slice A' N c')) w') : wpList P ops Q (o :: rest) a w :=
  wpList_appG hw s x t ho pre hm hE hs B A m c news hx hr h1 h63 hbytes fun A' c' w' hm' => h A' c' w' _ _ rfl rfl hm'
theorem Mst.emptyE {W w w2 : World} {bl : Bl} {ow : List Ro} {e : TypeId} (h : Mst W w bl ow) (hw : w.alloc (.cells #[] e) = w2) : Mst W w2 bl (⟨e, 1, .slice (some ⟨w.heap.size, 0, none⟩) 0 0, 0, []⟩ :: ow) := by
  subst hw
  exact h.newrow e 1 0 0 #[] (Nat.le_refl _) (by decide) rfl
theorem SZ.marked {W : World} {rows : List Ro} {gM : Nat} {ob : Obj} {l : List UInt8} (h : ∃ (cs : Array Value) (e : TypeId) (z : Nat × Nat), ob = .cells cs e z ∧ ∀ (j : Nat) (u : Value), (by8 l)[j]? = some u → cs[j]? = some u) : SZ W rows gM ob (some ⟨gM, 0, none⟩) l := .inr ⟨rfl, h⟩
theorem SZ.old {W : World} {rows : List Ro} {gM : Nat} {ob : Obj} {A : Option Addr} {l : List UInt8} (h : RB W W.heap.size A l) : SZ W rows gM ob A l := .inl (Src.old h)
section
variable {W w w2 : World} {bl : Bl} {ow : List Ro} {gM : Nat} {ob : Obj}
theorem Mst.markE (h : Mst W w bl ow) (hw : (w.alloc ob).drew = w2) : Mz W w2 bl ow w.heap.size ob := by
  subst hw
  exact h.mark ob
theorem Mz.newrowE (h : Mz W w bl ow gM ob) {e : TypeId} {v : Value} (hw : w.alloc (.cells #[v] e) = w2) : Mz W w2 bl (⟨e, 1, .slice (some ⟨w.heap.size, 0, none⟩) 1 1, 1, [v]⟩ :: ow) gM ob := by
  subst hw
  exact h.newrow e 1 1 1 #[v] (Nat.le_refl _) (by decide) rfl
theorem step_appZ {P : Program} {ops : Array Oper} {o : Oper} {a : Act} {K : Act → World → Prop} {Q : Exit → Act → World → Prop} {E : Prop} (hgd : o.guard = none) (s x : Operand) (t : TypeId)
    (ho : o.op = .call { callee := .builtin .append, args := #[s, x], argTypes := #[t, t] })
    (pre : List Ro) {post : List Ro} {e : TypeId} {size n bytes : Nat} {v : Value} {xs : List Value} (hm : Mz W w bl (pre ++ ⟨e, size, v, n, xs⟩ :: post) gM ob) (hE : El P t e size bytes) (hs : a.eval s = v)
    (B : Nat) (A : Option Addr) (m c : Nat) (news : List Value) (hx : a.eval x = .slice A m c) (hr : Rd w B size A m news) (h1 : ∀ u ∈ news, u.oneCell' = true)
    (h63 : n + m ≤ maxLen) (hbytes : (n + m) * bytes ≤ 140737488355328)
    (h : ∀ A' c' w' N X, N = n + m → X = xs ++ news → Mz W w' bl (pre ++ ⟨e, size, .slice A' N c', N, X⟩ :: post) gM ob → K (a.put o.dst (.slice A' N c')) w') :
    if Region.wanted o (yielded ops a.tmps) = true then Oper.wp P o a w K Q else E := by
  obtain ⟨ht, ⟨i, z, hi, hz, hsize, hby, hzs⟩, hp⟩ := hE
  refine step_app w hgd s x t ho W.heap.size e i z size bytes ht hi hz hsize hby hzs hp v n xs hs (hm.m.row pre) B A m c news hx hr h1 h63 hbytes hm.m.bel.size fun A' c' w' h2 h3 h4 => h A' c' w' _ _ rfl rfl ⟨hm.m.app pre h3 h2 h4, ?_, hm.lo, hm.nb, ?_⟩
  · exact (h3.block gM hm.lt (fun e2 => hm.nr ⟨e, size, v, n, xs⟩ (by simp) e2.symm)).trans hm.z
  · intro y hy
    rcases List.mem_append.1 hy with hy | hy
    · exact hm.nr y (List.mem_append_left _ hy)
    · rcases List.mem_cons.1 hy with rfl | hy
      · rcases h4 with h5 | h5
        · rw [h5]
          exact hm.nr ⟨e, size, v, n, xs⟩ (by simp)
        · rw [h5]
          have := hm.lt
          intro e2
          injection e2
          omega
      · exact hm.nr y (by simp [hy])
/-- A row of slices beside a marked block, as parts. -/
theorem Mz.pts {v : Value} {qs : List Pt} {n : Nat} {X : List Value} {A : Option Addr} {c : Nat} (h : Mz W w bl (⟨26, 1, .slice A n c, n, X⟩ :: ow) gM ob) (hn : n = qs.length) (hX : X = qs.map Pt.v) (hq : ∀ q ∈ qs, SZ W [] gM ob q.A q.l) : Pts w A qs := by
  subst hn hX
  exact ⟨own_rd (h.m.row []), fun q hm => h.rd (hq q hm) (fun _ h => nomatch h)⟩
end

end Go.Proofs.Ytnbemfceoianiaa

/- What the laws of the second chapter share. -/
namespace Go.Proofs.Ytnbemfceoianiaa
set_option linter.unusedVariables false
open Go.RowKit

/-- A slice's first bytes: how many, as the program reckons it. -/
theorem cut_n (N M : Nat) : ∃ n : Nat, (n : Int) = min (N : Int) M ∧ n ≤ N ∧ n ≤ M := ⟨min N M, by omega, by omega, by omega⟩
theorem few2_cat {ps : List Pt} : (catP (fewP 8 60 ps)).length ≤ 480 := by
  have h1 := catP_len_le (N := 60) (ps := fewP 8 60 ps) (fewP_le 8 60 ps)
  have h2 : (fewP 8 60 ps).length ≤ 8 := by rw [fewP_len]; omega
  omega
end Go.Proofs.Ytnbemfceoianiaa
