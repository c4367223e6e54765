/- 'copy' as a step from Mst to Mst; a key up to a block, with bits turned: plain, and the contract of package mac's filled. -/
import Derived.Test.YthnaobolmgcclaaMac1
import Derived.Test.YthnaobolmgcclaaDig2
import Derived.Laws.CopyOwn
import Derived.Deep.DeepCutAuto
namespace Go.Proofs.Ythnaobolmgcclaa
set_option linter.unusedVariables false
open Go.RowKit

section
variable {P : Program} {w W : World} {ow : List Ro}
theorem wpList_copyM {ops : Array Oper} {rest : List Oper} {o : Oper} {a : Act} {Q : Exit → Act → World → Prop} (hgd : o.guard = none) (d s : Operand) (dT sT : TypeId)
    (ho : o.op = .call { callee := .builtin .copy, args := #[d, s], argTypes := #[dT, sT] }) (elem : TypeId) (hu : P.underlying dT = some (.slice elem)) (hsz : (P.info? elem).map (·.size) = some 1)
    (pre : Bl) {post : Bl} {g : Nat} {t : TypeId} {cs : Array Value} (hm : Mst W w (pre ++ (g, t, cs) :: post) ow) (off dLen dCap : Nat) (A : Option Addr) (sLen sCap : Nat)
    (hd : a.eval d = .slice (some ⟨g, off, none⟩) dLen dCap) (hs : a.eval s = .slice A sLen sCap) (B : Nat) (xs : List Value) (hr : Rd w B 1 A sLen xs) (h1 : ∀ u ∈ xs, u.oneCell' = true)
    (N : Nat) (hN : N = Nat.min sLen dLen) (hfit : off + N ≤ cs.size)
    (h : ∀ w', Mst W w' (pre ++ (g, t, (splice cs.toList off (xs.take N)).toArray) :: post) ow → wpList P ops Q rest (a.put o.dst (goInt N)) w') : wpList P ops Q (o :: rest) a w := by
  have hx : (xs.take N).length = N := by
    rw [List.length_take, hr.1]
    have : N ≤ sLen := hN ▸ Nat.min_le_left _ _
    omega
  by_cases h0 : N = 0
  · refine wpList_copy_nothing hgd d s dT sT ho elem hu hsz _ _ dLen dCap sLen sCap hd hs (by omega) ?_
    have := h w (by
      rw [h0, List.take_zero]
      simpa [splice] using hm)
    rw [h0] at this
    exact this
  · have hm' := hm
    have hsl : 0 < sLen := by
      have : N ≤ sLen := hN ▸ Nat.min_le_left _ _
      omega
    obtain ⟨b, oo, rfl, hb, hc⟩ := hr.2 hsl
    have hg := Mst.blk pre hm
    have := wpList_copy_own (P := P) (Q := Q) (rest := rest) (ops := ops) hgd d s dT sT ho elem hu hsz g off dLen dCap ⟨b, oo, none⟩ sLen sCap hd hs cs t hg (xs.take N) (by rw [hx, hN])
      (fun j v hv => by
        rw [WideShapes.add_plain]
        rw [List.getElem?_take] at hv
        split at hv
        · exact hc j v hv
        · cases hv) (by rw [hx]; exact hfit) (fun v hv => h1 v (List.mem_of_mem_take hv))
    rw [hx] at this
    refine this ?_
    have h2 := h _ (Mst.setRow (bl := []) pre hm (splice cs.toList off (xs.take N)).toArray)
    unfold splice at h2
    rw [hx] at h2
    exact h2
end

/-- A digest put into a variable of the call's own. -/
theorem Mst.arr32 {W w : World} {bl : Bl} {ow : List Ro} (h : Mst W w bl ow) (K : List UInt8) :
    Mst W ((w.alloc (.cells Y32 54)).setRow w.heap.size (b8a K)) ((w.heap.size, 54, b8a K) :: bl) ow :=
  Mst.setRow (bl := []) [] (h.new 54 Y32) (b8a K)
theorem Src.arr {W : World} {bl : Bl} {ow : List Ro} {g : Nat} {t : TypeId} {K : List UInt8} {n : Nat} (h : (g, t, b8a K) ∈ bl) (hn : K.length = n) : Src W bl ow 1 (some ⟨g, 0, none⟩) n (by8 K) := by
  have := Src.blk (W := W) (ow := ow) (n := n) (size := 1) h (by rw [b8a_size, Nat.mul_one, hn])
  rwa [show (b8a K).toList = by8 K by simp [b8a]] at this
/-- A block of the call's own as a row. -/
theorem Mst.fullRow {W w : World} {bl : Bl} {ow : List Ro} {g : Nat} {t : TypeId} {cs : Array Value} {n : Nat} {xs : List Value} (h : Mst W w ((g, t, cs) :: bl) ow) (hn : cs.size = n) (hx : cs.toList = xs) (hm : n ≤ maxLen := by decide) :
    w.ownsRow W.heap.size t 1 (.slice (some ⟨g, 0, none⟩) n n) n xs := by
  subst hx
  refine ⟨by simp [hn], .inr ⟨g, n, cs, rfl, (h.bk _ (List.mem_cons_self ..)).2, h.blk [], Nat.le_refl _, hm, by simp [hn], ?_⟩⟩
  rw [List.take_of_length_le (by simp [hn])]
/-- 'make([]byte, n)'. -/
theorem make_u8 (n : Nat) (hn : n ≤ 1000000) (w : World) : (Instr.makeSlice 26 (.int .i64 (n : Int)) (.int .i64 (n : Int))).run Try.prog w = .ok (.slice (some ⟨w.heap.size, 0, none⟩) n n) (w.alloc (.cells (b8a (List.replicate n 0)) 5)) := by
  obtain ⟨i0, hi, hz0, hz1, hz2⟩ := info_parts info_u8
  have := run_make (P := Try.prog) w 26 5 i0 _ Try.underlying26 hi hz0 .i64 .i64 n n (by omega) (Int.le_refl _) (by rw [hz2]; omega) (by omega)
  have e : madeCells (Value.int .u8 0).cells n = b8a (List.replicate n 0) := by
    refine Array.ext (by simp [size_madeCells, b8a_size]) fun j h1 h2 => ?_
    simp [madeCells, b8a, by8, Value.cells, Nat.mod_one]
  rw [this, hz1, Int.toNat_natCast, Nat.mul_one, e]
/-- A key, at most a block long. -/
def keyOf (key : List UInt8) : List UInt8 := if 64 < key.length then sha key else key
theorem keyOf_len (key : List UInt8) : (keyOf key).length ≤ 64 := by
  unfold keyOf
  split
  · rw [show (sha key).length = 32 from rfl]; decide
  · omega
def fillZ (key : List UInt8) : List UInt8 := keyOf key ++ List.replicate (64 - (keyOf key).length) 0
theorem fillZ_len (key : List UInt8) : (fillZ key).length = 64 := by
  have := keyOf_len key
  simp [fillZ]
  omega
def fillB (key : List UInt8) (y : UInt8) : List UInt8 := (fillZ key).map (· ^^^ y)
theorem fillB_len (key : List UInt8) (y : UInt8) : (fillB key y).length = 64 := by simp [fillB, fillZ_len]
/-- The first k of it turned. -/
def fillK (key : List UInt8) (y : UInt8) (k : Nat) : List UInt8 := ((fillZ key).take k).map (· ^^^ y) ++ (fillZ key).drop k
theorem fillK_0 (key : List UInt8) (y : UInt8) : fillK key y 0 = fillZ key := by simp [fillK]
theorem fillK_64 (key : List UInt8) (y : UInt8) : fillK key y 64 = fillB key y := by
  unfold fillK fillB
  rw [List.take_of_length_le (by rw [fillZ_len]; exact Nat.le_refl _), List.drop_of_length_le (by rw [fillZ_len]; exact Nat.le_refl _), List.append_nil]
theorem fillK_len (key : List UInt8) (y : UInt8) {k : Nat} (h : k ≤ 64) : (fillK key y k).length = 64 := by
  simp only [fillK, List.length_append, List.length_map, List.length_take, List.length_drop, fillZ_len]
  omega
theorem fillK_get (key : List UInt8) (y : UInt8) {k : Nat} (h : k < 64) : (fillK key y k).getD k 0 = (fillZ key).getD k 0 := by
  unfold fillK
  rw [List.getD_eq_getElem?_getD, List.getElem?_append_right (by simp [fillZ_len]; omega)]
  simp only [List.length_map, List.length_take, fillZ_len, List.getElem?_drop, List.getD_eq_getElem?_getD]
  congr 2
  omega
theorem fillK_set (key : List UInt8) (y : UInt8) {k : Nat} (h : k < 64) : (fillK key y k).set k ((fillZ key).getD k 0 ^^^ y) = fillK key y (k + 1) := by
  have hl := fillZ_len key
  refine List.ext_getElem? fun j => ?_
  rw [List.getElem?_set]
  by_cases hj : k = j
  · subst hj
    rw [if_pos rfl, if_pos (by rw [fillK_len _ _ (by omega)]; exact h)]
    unfold fillK
    rw [List.getElem?_append_left (by simp [hl]; omega), List.getElem?_map, List.getElem?_take, if_pos (by omega), getD_at (by omega)]
    rfl
  · rw [if_neg hj]
    unfold fillK
    by_cases hlt : j < k
    · rw [List.getElem?_append_left (by simp [hl]; omega), List.getElem?_append_left (by simp [hl]; omega), List.getElem?_map, List.getElem?_map, List.getElem?_take, List.getElem?_take, if_pos hlt, if_pos (by omega)]
    · rw [List.getElem?_append_right (by simp [hl]; omega), List.getElem?_append_right (by simp [hl]; omega), List.getElem?_drop, List.getElem?_drop]
      congr 1
      simp [hl]
      omega
theorem by8_splice (l : List UInt8) (n : Nat) : splice (by8 (List.replicate n 0)) 0 (by8 l) = by8 (l ++ List.replicate (n - l.length) 0) := by
  simp [splice, by8]

/-- A part for the digest: the slice of bytes at hand, in a row of one. -/
def z64 : Array Value := b8a (List.replicate 64 0)
theorem z64_size : z64.size = 64 := by simp [z64, b8a_size]
structure FlM (w wr : World) (g : Nat) (key : List UInt8) (v6 : Value) : Prop where
  m : ∃ A c xb xr, v6 = .slice A (keyOf key).length c ∧ Mst w wr ((g, 5, z64) :: xb) xr ∧ Src w xb xr 1 A (keyOf key).length (by8 (keyOf key))

set_option maxRecDepth 100000 in
set_option maxHeartbeats 1000000 in
theorem filled_any (w : World) (A : Option Addr) (c : Nat) (key : List UInt8) (y : UInt8) (hr : RB w w.heap.size A key) (hk : key.length ≤ 100000) :
    Calls Try.prog 100 #[.slice A key.length c, .int .u8 (y.toNat : Int)] w fun e w' => ∃ g, e = .returned (.slice (some ⟨g, 0, none⟩) 64 64) ∧ Fresh w w' 5 1 (.slice (some ⟨g, 0, none⟩) 64 64) 64 (by8 (fillB key y)) := by
  have HR := Lib.hid hr
  obtain ⟨n, hn⟩ : ∃ n, key.length = n := ⟨_, rfl⟩
  have HN := Lib.hid hn
  rw [hn] at hk ⊢
  have m0 := (Mst.start w).new 5 z64
  have M0 := Lib.hid m0
  have hmk : ∀ w, (Instr.makeSlice 26 (.int .i64 64) (.int .i64 64)).run Try.prog w = .ok (.slice (some ⟨w.heap.size, 0, none⟩) 64 64) (w.alloc (.cells z64 5)) := fun w => make_u8 64 (by decide) w
  clear hr hn m0
  go_enter Try.func100, Try.ntmps100
  go_upto_if 13 with fail
  go_cut [6] (fun s6 wr => FlM w wr w.heap.size key s6)
  case first =>
    by_cases h64 : 64 < n
    · have i1 : (64 : Int) < n := by omega
      have hK : keyOf key = sha key := by unfold keyOf; rw [if_pos (by rw [HN.out]; exact h64)]
      obtain ⟨K, hK2⟩ : ∃ K, sha key = K := ⟨_, rfl⟩
      have hKl : K.length = 32 := by rw [← hK2]; rfl
      rw [hK2] at hK
      have HK := Lib.hid hK
      have HKL := Lib.hid hKl
      have m1 := M0.out.one (A := A) (l := key) (Src.old HR.out) c
      rw [HN.out] at m1
      have HD := Lib.hid (show Calls Try.prog 35 #[.slice (some ⟨w.heap.size + 1, 0, none⟩) 1 1] ((w.alloc (.cells z64 5)).alloc (.cells #[.slice A n c] 26)) fun e w2 => e = .returned (.agg (b8a K)) ∧ Below (w.heap.size + 1 + 1) ((w.alloc (.cells z64 5)).alloc (.cells #[.slice A n c] 26)) w2 from by
        have := dsum_any _ _ 1 _ m1.2 (by simp) (by simp [catP]; rw [HN.out]; omega)
        rw [show catP [(⟨A, c, key⟩ : Pt)] = key by simp [catP], hK2] at this
        simpa using this)
      have M1 := Lib.hid m1.1
      clear hK hKl hK2 m1
      go_wp2_with fail
      refine HD.out.mono ?_
      rintro e w2 ⟨rfl, hb2⟩
      have m2 := M1.out.below (by simpa using hb2)
      have m3 := m2.arr32 K
      have M3 := Lib.hid m3
      clear hb2 m2 m3
      go_wp2_with (first | refine wpList_store_row rfl _ _ _ rfl w2.heap.size (b8a K) rfl rfl 54 _ (Bk.mk_ _ _ _) (info_k HKL.out) (y32_k HKL.out) (b8a_one K) ?_)
      go_meet
      exact ⟨some ⟨w2.heap.size, 0, none⟩, 32, [_], _, by rw [HK.out, HKL.out], M3.out.perm (List.Perm.swap _ _ _) (List.Perm.refl _), by rw [HK.out]; exact Src.arr (List.mem_cons_self ..) rfl⟩
    · have i1 : ¬ (64 : Int) < n := by omega
      have hK : keyOf key = key := by unfold keyOf; rw [if_neg (by rw [HN.out]; exact h64)]
      have HK := Lib.hid hK
      clear hK
      go_wp2_with fail
      go_meet
      exact ⟨A, c, [], [], by rw [HK.out, HN.out], M0.out, by rw [HK.out]; exact Src.old HR.out⟩
  case rest =>
    obtain ⟨A6, c6, xb, xr, rfl, hm, hs⟩ := hcut.m
    have hkl := keyOf_len key
    obtain ⟨n6, hn6⟩ : ∃ n, (keyOf key).length = n := ⟨_, rfl⟩
    rw [hn6] at hs hkl ⊢
    have HN6 := Lib.hid hn6
    have M0 := Lib.hid hm
    have HS := Lib.hid hs
    obtain ⟨g5, hg5⟩ : ∃ g, w.heap.size = g := ⟨_, rfl⟩
    rw [hg5] at M0 ⊢
    have HG5 := Lib.hid hg5
    have b2 : Nat.min n6 64 = n6 := Nat.min_eq_left hkl
    have B2 := Lib.hid b2
    clear hm hs hn6 hcut hg5 b2
    have hZ : 0 + n6 ≤ z64.size := by rw [z64_size]; omega
    go_wp2_with ((with_reducible show wpList _ _ _ _ _ _); refine wpList_copyM rfl (.tmp 18) (.tmp 19) 26 26 rfl 5 Try.underlying26 (by kernel_rfl) [] M0.out 0 64 64 A6 n6 c6 rfl rfl _ _ (M0.out.src (HS.out.cb _)) (by8_one _) n6 B2.out.symm hZ ?_; intro w2 hm2; have M2 := Lib.hid hm2; clear hm2)
    have m3 := M2.out
    rw [show z64.toList = by8 (List.replicate 64 0) by simp [z64, b8a], List.take_of_length_le (by rw [by8_length, HN6.out]; exact Nat.le_refl _), by8_splice] at m3
    have m4 := m3.sub (bl' := [(g5, 5, b8a (fillK key y 0))]) (ow' := []) (by rw [fillK_0]; exact List.Sublist.cons_cons _ (List.nil_sublist _)) (List.nil_sublist _)
    have M4 := Lib.hid m4
    have MK := Lib.hid (show Mst w w2 [(g5, 5, b8a (fillK key y 0))] [] from m4)
    have ST := fun (x : UInt8) p w => Bv_store (P := Try.prog) x w p
    have SC := fun x => (Value.cells.eq_def (Bv x)).symm.trans (Bv_cells x)
    have BX := fun x y w => Bv_xor (P := Try.prog) 5 x y w
    rw [Bv_eq]
    clear m3 m4 M2 M0 hZ hmk
    go_loopg [23] 64 (fun gk s23 wr => ∃ k : Nat, k + gk = 64 ∧ s23 = .int .i64 k ∧ Mst w wr [(g5, 5, b8a (fillK key y k))] [])
    case atStart => exact ⟨0, by omega, rfl, MK.out⟩
    case round =>
      obtain ⟨k, hk, rfl, hm⟩ := hrel
      by_cases hlt : k < 64
      · have f3 := (hm.blk []).fr k
        have c3 : wr.cell? ⟨g5, k, none⟩ = some (Bv ((fillZ key).getD k 0)) := ((hm.blk []).cell k).trans (by rw [b8a_get (by rw [fillK_len _ _ (by omega)]; exact hlt), fillK_get _ _ hlt]; rfl)
        obtain ⟨x, hx⟩ : ∃ x, (fillZ key).getD k 0 = x := ⟨_, rfl⟩
        have hs := fillK_set key y hlt
        rw [hx] at c3 hs
        have HX := Lib.hid hs
        have HM := Lib.hid hm
        clear hx hs hm
        go_wp2
        go_roundg (64 - (k + 1))
        case measure => exact meas hk hlt
        case rel => exact ⟨k + 1, meas2 hlt, by go_num, by
          have := HM.out.put [] k (Bv (x ^^^ y))
          rw [show Bv (x ^^^ y) = .int .u8 ((x ^^^ y).toNat : Int) from rfl, b8a_set, HX.out] at this
          exact this⟩
      · obtain rfl : k = 64 := by omega
        rw [fillK_64] at hm
        have HM := Lib.hid hm
        clear hm hlt hk
        go_wp2_with fail
        go_ret
        exact ⟨g5, rfl, HM.out.bel, HM.out.fullRow (by rw [b8a_size, fillB_len]) (by simp [b8a])⟩
end Go.Proofs.Ythnaobolmgcclaa
