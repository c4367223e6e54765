/- Mac1. Mac2. Mac3. Mac4. Mac5. Mac6. Mac7. Mac8. MacQ. -/
import Derived.Test.YtnbemfceoianiaaDoorBaseB
import Derived.Deep.RegionHeld3
import Derived.Test.YtnbemfceoianiaaDoorDigA
import Derived.Laws.CopyOwn
import Derived.Deep.DeepCutAuto
import Derived.Laws.IdiomStrings
import Derived.Lib.MinMax
/- Bytes as opaque values; the contract of mac.Equal. -/
namespace Go.Proofs.YtnbemfceoianiaaDoor
set_option linter.unusedVariables false
open Go.RowKit

/-- A byte as a value. -/
def Bv (x : UInt8) : Value := .int .u8 (x.toNat : Int)
theorem Bv_cells (x : UInt8) : (Bv x).cells = #[Bv x] := rfl
theorem Bv_eq (x : UInt8) : Value.int .u8 (x.toNat : Int) = Bv x := rfl
theorem by8_Bv (l : List UInt8) : by8 l = l.map Bv := rfl
section
variable {P : Program} (t : TypeId) (x y : UInt8) (w : World)
theorem Bv_bv : BitVec.ofInt IntKind.u8.bits (x.toNat : Int) = x.toBitVec := by
  show BitVec.ofInt 8 (x.toNat : Int) = x.toBitVec
  rw [BitVec.ofInt_natCast]
  simp
theorem Bv_wr : IntKind.u8.wrap (x.toNat : Int) = (x.toNat : Int) := by
  have := x.toNat_lt
  simp [IntKind.wrap, IntKind.signed, IntKind.bits]
  omega
theorem Bv_xor : (binOp .xor t (Bv x) (Bv y)).run P w = .ok (Bv (x ^^^ y)) w := by
  simp only [binOp, Bv, Op.intBits, ne_eq, not_true, if_false, Bv_bv, Sem.run_pure]
  exact congrArg (fun z => Result.ok (Value.int .u8 z) w) (Bv_wr (x ^^^ y))
theorem Bv_or : (binOp .or t (Bv x) (Bv y)).run P w = .ok (Bv (x ||| y)) w := by
  simp only [binOp, Bv, Op.intBits, ne_eq, not_true, if_false, Bv_bv, Sem.run_pure]
  exact congrArg (fun z => Result.ok (Value.int .u8 z) w) (Bv_wr (x ||| y))
theorem Bv_store (p : Addr) (hc : (w.cell? p).isSome = true) (hf : w.frozen? p = false) : (store p (Bv x)).run P w = .ok () (w.setCell p (Bv x)) := by
  obtain ⟨old, ho⟩ := Option.isSome_iff_exists.1 hc
  simp only [run_store P w _ (Bv x) _ rfl, ho]
  simp [hf]
theorem Bv_zero : ((x.toNat : Int) == 0) = decide (x = 0) := by
  rw [Bool.eq_iff_iff]
  simp only [beq_iff_eq, decide_eq_true_eq]
  constructor
  · intro h
    exact UInt8.toNat_inj.1 (by simpa using h)
  · rintro rfl; rfl
end

/-- In how far two lists of bytes differ. -/
def orK (l l' : List UInt8) : Nat → UInt8
  | 0 => 0
  | k + 1 => orK l l' k ||| (l.getD k 0 ^^^ l'.getD k 0)
theorem orK_zero (l l' : List UInt8) : ∀ k, orK l l' k = 0 ↔ ∀ j, j < k → l.getD j 0 = l'.getD j 0
  | 0 => by simp [orK]
  | k + 1 => by
    rw [orK, UInt8.or_eq_zero_iff, UInt8.xor_eq_zero_iff, orK_zero l l' k]
    constructor
    · rintro ⟨h1, h2⟩ j hj
      rcases Nat.lt_or_ge j k with h | h
      · exact h1 j h
      · obtain rfl : j = k := by omega
        exact h2
    · exact fun h => ⟨fun j hj => h j (by omega), h k (by omega)⟩
theorem orK_eq (l l' : List UInt8) (h : l.length = l'.length) : decide (orK l l' l.length = 0) = decide (l = l') := by
  rw [Bool.eq_iff_iff]
  simp only [decide_eq_true_eq, orK_zero]
  constructor
  · intro h1
    refine List.ext_getElem h fun j h2 h3 => ?_
    have := h1 j h2
    rw [List.getD_eq_getElem?_getD, List.getD_eq_getElem?_getD, List.getElem?_eq_getElem h2, List.getElem?_eq_getElem h3] at this
    exact this
  · rintro rfl j _; rfl
theorem getD_at {l : List UInt8} {k : Nat} (h : k < l.length) : l[k]? = some (l.getD k 0) := by
  rw [List.getD_eq_getElem?_getD, List.getElem?_eq_getElem h]; rfl

end Go.Proofs.YtnbemfceoianiaaDoor

/- 'copy' as a step from Mst to Mst; a key up to a block, with bits turned: plain, and the contract of package mac's filled. -/
namespace Go.Proofs.YtnbemfceoianiaaDoor
set_option linter.unusedVariables false
open Go.RowKit

section
variable {P : Program} {w W : World} {ow : List Ro}
theorem wpList_copyM {ops : Array Oper} {rest : List Oper} {o : Oper} {a : Act} {Q : Exit → Act → World → Prop} (hgd : o.guard = none) (d s : Operand) (dT sT : TypeId)
    (ho : o.op = .call { callee := .builtin .copy, args := #[d, s], argTypes := #[dT, sT] }) (elem : TypeId) (hu : P.underlying dT = some (.slice elem)) (hsz : (P.info? elem).map (·.size) = some 1)
    (pre : Bl) {post : Bl} {g : Nat} {t : TypeId} {cs : Array Value} (hm : Mst W w (pre ++ (g, t, cs) :: post) ow) (off dLen dCap : Nat) (A : Option Addr) (sLen sCap : Nat)
    (hd : a.eval d = .slice (some ⟨g, off, none⟩) dLen dCap) (hs : a.eval s = .slice A sLen sCap) (B : Nat) (xs : List Value) (hr : Rd w B 1 A sLen xs) (h1 : ∀ u ∈ xs, u.oneCell' = true)
    (N : Nat) (hN : N = Nat.min sLen dLen) (hfit : off + N ≤ cs.size)
    (h : ∀ w', Mst W w' (pre ++ (g, t, (splice cs.toList off (xs.take N)).toArray) :: post) ow → wpList P ops Q rest (a.put o.dst (goInt N)) w') : wpList P ops Q (o :: rest) a w := by
  have hx : (xs.take N).length = N := by
    rw [List.length_take, hr.1]
    have : N ≤ sLen := hN ▸ Nat.min_le_left _ _
    omega
  by_cases h0 : N = 0
  · refine wpList_copy_nothing hgd d s dT sT ho elem hu hsz _ _ dLen dCap sLen sCap hd hs (by omega) ?_
    have := h w (by
      rw [h0, List.take_zero]
      simpa [splice] using hm)
    rw [h0] at this
    exact this
  · have hm' := hm
    have hsl : 0 < sLen := by
      have : N ≤ sLen := hN ▸ Nat.min_le_left _ _
      omega
    obtain ⟨b, oo, rfl, hb, hc⟩ := hr.2 hsl
    have hg := Mst.blk pre hm
    have := wpList_copy_own (P := P) (Q := Q) (rest := rest) (ops := ops) hgd d s dT sT ho elem hu hsz g off dLen dCap ⟨b, oo, none⟩ sLen sCap hd hs cs t hg (xs.take N) (by rw [hx, hN])
      (fun j v hv => by
        rw [WideShapes.add_plain]
        rw [List.getElem?_take] at hv
        split at hv
        · exact hc j v hv
        · cases hv) (by rw [hx]; exact hfit) (fun v hv => h1 v (List.mem_of_mem_take hv))
    rw [hx] at this
    refine this ?_
    have h2 := h _ (Mst.setRow (bl := []) pre hm (splice cs.toList off (xs.take N)).toArray)
    unfold splice at h2
    rw [hx] at h2
    exact h2
end

/-- A digest put into a variable of the call's own. -/
theorem Mst.arr32 {W w : World} {bl : Bl} {ow : List Ro} (h : Mst W w bl ow) (K : List UInt8) :
    Mst W ((w.alloc (.cells Y32 31)).setRow w.heap.size (b8a K)) ((w.heap.size, 31, b8a K) :: bl) ow :=
  Mst.setRow (bl := []) [] (h.new 31 Y32) (b8a K)
theorem Src.arr {W : World} {bl : Bl} {ow : List Ro} {g : Nat} {t : TypeId} {K : List UInt8} {n : Nat} (h : (g, t, b8a K) ∈ bl) (hn : K.length = n) : Src W bl ow 1 (some ⟨g, 0, none⟩) n (by8 K) := by
  have := Src.blk (W := W) (ow := ow) (n := n) (size := 1) h (by rw [b8a_size, Nat.mul_one, hn])
  rwa [show (b8a K).toList = by8 K by simp [b8a]] at this
/-- A block of the call's own as a row. -/
theorem Mst.fullRow {W w : World} {bl : Bl} {ow : List Ro} {g : Nat} {t : TypeId} {cs : Array Value} {n : Nat} {xs : List Value} (h : Mst W w ((g, t, cs) :: bl) ow) (hn : cs.size = n) (hx : cs.toList = xs) (hm : n ≤ maxLen := by decide) :
    w.ownsRow W.heap.size t 1 (.slice (some ⟨g, 0, none⟩) n n) n xs := by
  subst hx
  refine ⟨by simp [hn], .inr ⟨g, n, cs, rfl, (h.bk _ (List.mem_cons_self ..)).2, h.blk [], Nat.le_refl _, hm, by simp [hn], ?_⟩⟩
  rw [List.take_of_length_le (by simp [hn])]
/-- 'make([]byte, n)'. -/
theorem make_u8 (n : Nat) (hn : n ≤ 1000000) (w : World) : (Instr.makeSlice 30 (.int .i64 (n : Int)) (.int .i64 (n : Int))).run Tryd.prog w = .ok (.slice (some ⟨w.heap.size, 0, none⟩) n n) (w.alloc (.cells (b8a (List.replicate n 0)) 5)) := by
  obtain ⟨i0, hi, hz0, hz1, hz2⟩ := info_parts info_u8
  have := run_make (P := Tryd.prog) w 30 5 i0 _ Tryd.underlying30 hi hz0 .i64 .i64 n n (by omega) (Int.le_refl _) (by rw [hz2]; omega) (by omega)
  have e : madeCells (Value.int .u8 0).cells n = b8a (List.replicate n 0) := by
    refine Array.ext (by simp [size_madeCells, b8a_size]) fun j h1 h2 => ?_
    simp [madeCells, b8a, by8, Value.cells, Nat.mod_one]
  rw [this, hz1, Int.toNat_natCast, Nat.mul_one, e]
/-- A key, at most a block long. -/
def keyOf (key : List UInt8) : List UInt8 := if 64 < key.length then sha key else key
theorem keyOf_len (key : List UInt8) : (keyOf key).length ≤ 64 := by
  unfold keyOf
  split
  · rw [show (sha key).length = 32 from rfl]; decide
  · omega
def fillZ (key : List UInt8) : List UInt8 := keyOf key ++ List.replicate (64 - (keyOf key).length) 0
theorem fillZ_len (key : List UInt8) : (fillZ key).length = 64 := by
  have := keyOf_len key
  simp [fillZ]
  omega
def fillB (key : List UInt8) (y : UInt8) : List UInt8 := (fillZ key).map (· ^^^ y)
theorem fillB_len (key : List UInt8) (y : UInt8) : (fillB key y).length = 64 := by simp [fillB, fillZ_len]
/-- The first k of it turned. -/
def fillK (key : List UInt8) (y : UInt8) (k : Nat) : List UInt8 := ((fillZ key).take k).map (· ^^^ y) ++ (fillZ key).drop k
theorem fillK_0 (key : List UInt8) (y : UInt8) : fillK key y 0 = fillZ key := by simp [fillK]
theorem fillK_64 (key : List UInt8) (y : UInt8) : fillK key y 64 = fillB key y := by
  unfold fillK fillB
  rw [List.take_of_length_le (by rw [fillZ_len]; exact Nat.le_refl _), List.drop_of_length_le (by rw [fillZ_len]; exact Nat.le_refl _), List.append_nil]
theorem fillK_len (key : List UInt8) (y : UInt8) {k : Nat} (h : k ≤ 64) : (fillK key y k).length = 64 := by
  simp only [fillK, List.length_append, List.length_map, List.length_take, List.length_drop, fillZ_len]
  omega
theorem fillK_get (key : List UInt8) (y : UInt8) {k : Nat} (h : k < 64) : (fillK key y k).getD k 0 = (fillZ key).getD k 0 := by
  unfold fillK
  rw [List.getD_eq_getElem?_getD, List.getElem?_append_right (by simp [fillZ_len]; omega)]
  simp only [List.length_map, List.length_take, fillZ_len, List.getElem?_drop, List.getD_eq_getElem?_getD]
  congr 2
  omega
theorem fillK_set (key : List UInt8) (y : UInt8) {k : Nat} (h : k < 64) : (fillK key y k).set k ((fillZ key).getD k 0 ^^^ y) = fillK key y (k + 1) := by
  have hl := fillZ_len key
  refine List.ext_getElem? fun j => ?_
  rw [List.getElem?_set]
  by_cases hj : k = j
  · subst hj
    rw [if_pos rfl, if_pos (by rw [fillK_len _ _ (by omega)]; exact h)]
    unfold fillK
    rw [List.getElem?_append_left (by simp [hl]; omega), List.getElem?_map, List.getElem?_take, if_pos (by omega), getD_at (by omega)]
    rfl
  · rw [if_neg hj]
    unfold fillK
    by_cases hlt : j < k
    · rw [List.getElem?_append_left (by simp [hl]; omega), List.getElem?_append_left (by simp [hl]; omega), List.getElem?_map, List.getElem?_map, List.getElem?_take, List.getElem?_take, if_pos hlt, if_pos (by omega)]
    · rw [List.getElem?_append_right (by simp [hl]; omega), List.getElem?_append_right (by simp [hl]; omega), List.getElem?_drop, List.getElem?_drop]
      congr 1
      simp [hl]
      omega
theorem by8_splice (l : List UInt8) (n : Nat) : splice (by8 (List.replicate n 0)) 0 (by8 l) = by8 (l ++ List.replicate (n - l.length) 0) := by
  simp [splice, by8]

/-- A part for the digest: the slice of bytes at hand, in a row of one. -/
def z64 : Array Value := b8a (List.replicate 64 0)
theorem z64_size : z64.size = 64 := by simp [z64, b8a_size]
structure FlM (w wr : World) (g : Nat) (key : List UInt8) (v6 : Value) : Prop where
  m : ∃ A c xb xr, v6 = .slice A (keyOf key).length c ∧ Mst w wr ((g, 5, z64) :: xb) xr ∧ Src w xb xr 1 A (keyOf key).length (by8 (keyOf key))

end Go.Proofs.YtnbemfceoianiaaDoor

/- Contracts of package mac: tag, Tag, Check. -/
namespace Go.Proofs.YtnbemfceoianiaaDoor
set_option linter.unusedVariables false
set_option linter.unusedSimpArgs false
open Go.RowKit

/-- The tag of bytes under a key. -/
def macT (key b : List UInt8) : List UInt8 := sha (fillB key 92 ++ sha (fillB key 54 ++ b))
theorem macT_len (key b : List UInt8) : (macT key b).length = 32 := rfl
theorem Mst.two {W w : World} {bl : Bl} {ow : List Ro} (h : Mst W w bl ow) {p q : Pt} (h1 : Src W bl ow 1 p.A p.l.length (by8 p.l)) (h2 : Src W bl ow 1 q.A q.l.length (by8 q.l)) :
    Mst W (w.alloc (.cells #[p.v, q.v] 30)) bl (⟨30, 1, .slice (some ⟨w.heap.size, 0, none⟩) 2 2, 2, [p.v, q.v]⟩ :: ow) ∧
    Pts (w.alloc (.cells #[p.v, q.v] 30)) (some ⟨w.heap.size, 0, none⟩) [p, q] := by
  have m1 := h.newrow 30 1 2 2 #[p.v, q.v] (Nat.le_refl _) (by decide) rfl
  refine ⟨m1, m1.src (m1.rowSrc (List.mem_cons_self ..)), fun x hx => ?_⟩
  have hx2 : x = p ∨ x = q := by simpa using hx
  rcases hx2 with rfl | rfl
  · exact m1.src (h1.cr _)
  · exact m1.src (h2.cr _)
theorem Mst.twoE {W w w2 : World} {bl : Bl} {ow : List Ro} (h : Mst W w bl ow) {A1 A2 : Option Addr} {l1 l2 : List UInt8} {n1 n2 : Nat} (e1 : l1.length = n1) (e2 : l2.length = n2) (h1 : Src W bl ow 1 A1 n1 (by8 l1)) (h2 : Src W bl ow 1 A2 n2 (by8 l2))
    {c1 c2 : Nat} (hw : w.alloc (.cells #[.slice A1 n1 c1, .slice A2 n2 c2] 30) = w2) : ∃ y, Mst W w2 bl (y :: ow) ∧ Pts w2 (some ⟨w.heap.size, 0, none⟩) [⟨A1, c1, l1⟩, ⟨A2, c2, l2⟩] := by
  subst e1 e2 hw
  exact ⟨_, h.two (p := ⟨A1, c1, l1⟩) (q := ⟨A2, c2, l2⟩) h1 h2⟩
theorem Mst.oneE {W w w2 : World} {bl : Bl} {ow : List Ro} (h : Mst W w bl ow) {A1 : Option Addr} {l1 : List UInt8} {n1 : Nat} (e1 : l1.length = n1) (h1 : Src W bl ow 1 A1 n1 (by8 l1))
    {c1 : Nat} (hw : w.alloc (.cells #[.slice A1 n1 c1] 30) = w2) : ∃ y, Mst W w2 bl (y :: ow) ∧ Pts w2 (some ⟨w.heap.size, 0, none⟩) [⟨A1, c1, l1⟩] := by
  subst e1 hw
  exact ⟨_, h.one h1 c1⟩

end Go.Proofs.YtnbemfceoianiaaDoor

/- A block with marks beside the memory of a call; the contract of package mac's framed. -/
namespace Go.Proofs.YtnbemfceoianiaaDoor
set_option linter.unusedVariables false
set_option linter.unusedSimpArgs false
open Go.RowKit

/-- A block of the call's own, with whatever marks, that nothing writes. -/
structure Mz (W wr : World) (bl : Bl) (ow : List Ro) (gM : Nat) (ob : Obj) : Prop where
  m : Mst W wr bl ow
  z : wr.heap[gM]? = some ob
  lo : W.heap.size ≤ gM
  nb : ∀ x ∈ bl, x.1 ≠ gM
  nr : ∀ y ∈ ow, y.v.ownBlock ≠ some gM
section
variable {W wr w' : World} {bl : Bl} {ow : List Ro} {gM : Nat} {ob : Obj}
theorem Mz.lt (h : Mz W wr bl ow gM ob) : gM < wr.heap.size := by
  rcases Nat.lt_or_ge gM wr.heap.size with h1 | h1
  · exact h1
  · have := h.z
    rw [Array.getElem?_eq_none h1] at this
    cases this
theorem Mz.newrow (h : Mz W wr bl ow gM ob) (e : TypeId) (size n cap : Nat) (cs : Array Value) (hn : n ≤ cap) (hm : cap ≤ maxLen) (hs : cs.size = cap * size) :
    Mz W (wr.alloc (.cells cs e)) bl (⟨e, size, .slice (some ⟨wr.heap.size, 0, none⟩) n cap, n, cs.toList.take (n * size)⟩ :: ow) gM ob := by
  refine ⟨h.m.newrow e size n cap cs hn hm hs, (Below.heap_alloc wr _ gM h.lt).trans h.z, h.lo, h.nb, fun y hy => ?_⟩
  rcases List.mem_cons.1 hy with rfl | hy
  · have := h.lt
    intro e
    have e' : wr.heap.size = gM := by injection e
    omega
  · exact h.nr y hy
theorem Mz.put (pre : Bl) {post : Bl} {g : Nat} {t : TypeId} {cs : Array Value} (h : Mz W wr (pre ++ (g, t, cs) :: post) ow gM ob) (i : Nat) (u : Value) :
    Mz W (wr.setCell ⟨g, i, none⟩ u) (pre ++ (g, t, cs.setIfInBounds i u) :: post) ow gM ob := by
  refine ⟨h.m.put pre i u, ?_, h.lo, fun x hx => ?_, h.nr⟩
  · refine (Below.heap_setCell wr ⟨g, i, none⟩ u gM ?_).trans h.z
    exact fun e => h.nb (g, t, cs) (by simp) e.symm
  · rcases List.mem_append.1 hx with hx | hx
    · exact h.nb x (List.mem_append_left _ hx)
    · rcases List.mem_cons.1 hx with rfl | hx
      · exact h.nb (g, t, cs) (by simp)
      · exact h.nb x (by simp [hx])
theorem Mz.perm {bl' : Bl} {ow' : List Ro} (h : Mz W wr bl ow gM ob) (h1 : bl.Perm bl') (h2 : ow.Perm ow') : Mz W wr bl' ow' gM ob :=
  ⟨h.m.perm h1 h2, h.z, h.lo, fun x hx => h.nb x (h1.mem_iff.2 hx), fun y hy => h.nr y (h2.mem_iff.2 hy)⟩
/-- Such a block, just made. -/
theorem Mst.mark (h : Mst W wr bl ow) (ob : Obj) : Mz W (wr.drew.alloc ob) bl ow wr.heap.size ob := by
  refine ⟨h.drew.alloc ob, heap_alloc_new wr.drew ob, h.bel.size, fun x hx => ?_, fun y hy e => ?_⟩
  · have := (h.bk x hx).1.lt
    omega
  · have := ((h.own y hy).lt _ e).2
    omega
theorem wpList_appZ {P : Program} {ops : Array Oper} {rest : List Oper} {o : Oper} {a : Act} {Q : Exit → Act → World → Prop} (hgd : o.guard = none) (s x : Operand) (t : TypeId)
    (ho : o.op = .call { callee := .builtin .append, args := #[s, x], argTypes := #[t, t] })
    (pre : List Ro) {post : List Ro} {e : TypeId} {size n bytes : Nat} {v : Value} {xs : List Value} (hm : Mz W wr bl (pre ++ ⟨e, size, v, n, xs⟩ :: post) gM ob) (hE : El P t e size bytes) (hs : a.eval s = v)
    (B : Nat) (A : Option Addr) (m c : Nat) (news : List Value) (hx : a.eval x = .slice A m c) (hr : Rd wr B size A m news) (h1 : ∀ u ∈ news, u.oneCell' = true)
    (h63 : n + m ≤ maxLen) (hbytes : (n + m) * bytes ≤ 140737488355328)
    (h : ∀ A' c' w', Mz W w' bl (pre ++ ⟨e, size, .slice A' (n + m) c', n + m, xs ++ news⟩ :: post) gM ob → wpList P ops Q rest (a.put o.dst (.slice A' (n + m) c')) w') : wpList P ops Q (o :: rest) a wr := by
  obtain ⟨ht, ⟨i, z, hi, hz, hsize, hby, hzs⟩, hp⟩ := hE
  refine wpList_app wr hgd s x t ho W.heap.size e i z size bytes ht hi hz hsize hby hzs hp v n xs hs (hm.m.row pre) B A m c news hx hr h1 h63 hbytes hm.m.bel.size fun A' c' w' h2 h3 h4 => h A' c' w' ⟨hm.m.app pre h3 h2 h4, ?_, hm.lo, hm.nb, ?_⟩
  · exact (h3.block gM hm.lt (fun e2 => hm.nr ⟨e, size, v, n, xs⟩ (by simp) e2.symm)).trans hm.z
  · intro y hy
    rcases List.mem_append.1 hy with hy | hy
    · exact hm.nr y (List.mem_append_left _ hy)
    · rcases List.mem_cons.1 hy with rfl | hy
      · rcases h4 with h5 | h5
        · rw [h5]
          exact hm.nr ⟨e, size, v, n, xs⟩ (by simp)
        · rw [h5]
          have := hm.lt
          intro e2
          injection e2
          omega
      · exact hm.nr y (by simp [hy])
end
/-- A source in older memory, a row of the call's own, or the marked block. -/
def SZ (W : World) (rows : List Ro) (gM : Nat) (ob : Obj) (A : Option Addr) (l : List UInt8) : Prop :=
  Src W [] rows 1 A l.length (by8 l) ∨ (A = some ⟨gM, 0, none⟩ ∧ ∃ (cs : Array Value) (e : TypeId) (z : Nat × Nat), ob = .cells cs e z ∧ ∀ (j : Nat) (u : Value), (by8 l)[j]? = some u → cs[j]? = some u)
theorem SZ.sub {W : World} {rows rows' : List Ro} {gM : Nat} {ob : Obj} {A : Option Addr} {l : List UInt8} (h : SZ W rows gM ob A l) (hs : ∀ y ∈ rows, y ∈ rows') : SZ W rows' gM ob A l :=
  h.imp (fun h => h.sub (fun _ h => h) hs) id
theorem Mz.rd {W wr : World} {bl : Bl} {ow rows : List Ro} {gM : Nat} {ob : Obj} {A : Option Addr} {l : List UInt8} (h : Mz W wr bl ow gM ob) (hs : SZ W rows gM ob A l) (hr : ∀ y ∈ rows, y ∈ ow) : RB wr wr.heap.size A l := by
  rcases hs with hs | ⟨rfl, cs, e, z, rfl, hc⟩
  · exact h.m.src (hs.sub (fun _ h => nomatch h) hr)
  · refine ⟨by rw [by8_length]; omega, fun _ => ⟨gM, 0, rfl, h.lt, fun j u hu => ?_⟩⟩
    refine (cell_of_row _ gM (0 + j) _ _ z h.z).trans ?_
    rw [Nat.zero_add]
    exact hc j u hu

/-- Four bytes for a length. -/
def len4 (n : Nat) : List UInt8 := [UInt8.ofNat (n >>> 24), UInt8.ofNat (n >>> 16), UInt8.ofNat (n >>> 8), UInt8.ofNat n]
/-- What is laid so far: a row of slices, in a variable. -/
structure FrX (W w : World) (gc gM : Nat) (ob : Obj) (ls : List (List UInt8)) (rows : List Ro) : Prop where
  ex : ∃ (v : Value) (qs : List Pt), qs.map Pt.l = ls ∧ Mz W w [(gc, 64, #[v])] (⟨30, 1, v, qs.length, qs.map Pt.v⟩ :: rows) gM ob ∧ ∀ q ∈ qs, SZ W rows gM ob q.A q.l
theorem W_of (n : Nat) (h : n < 4294967296) (w : World) : (convert 3 68 (.int .i64 (n : Int))).run Tryd.prog w = .ok (W (BitVec.ofNat 32 n)) w := by
  have e : (convert 3 68 (.int .i64 (n : Int))).run Tryd.prog w = .ok (.int .u32 (IntKind.u32.wrap (n : Int))) w := by go_simp
  rw [e, wrap_u32]
  unfold W
  congr 2

/-- Each with its length ahead. -/
def framesL (ls : List (List UInt8)) : List (List UInt8) := ls.flatMap fun l => [len4 l.length, l]
theorem framesL_snoc (ls : List (List UInt8)) (l : List UInt8) : framesL (ls ++ [l]) = framesL ls ++ [len4 l.length, l] := by simp [framesL]
theorem framesL_len (ls : List (List UInt8)) : (framesL ls).length = 2 * ls.length := by
  induction ls with
  | nil => rfl
  | cons l ls ih => simp only [framesL, List.flatMap_cons, List.length_append, List.length_cons, List.length_nil] at ih ⊢; omega
theorem FrX.bel {W w : World} {gc gM : Nat} {ob : Obj} {ls : List (List UInt8)} {rows : List Ro} (h : FrX W w gc gM ob ls rows) : Below W.heap.size W w := by
  obtain ⟨v, qs, _, hm, _⟩ := h.ex
  exact hm.m.bel
theorem FrX.out {W w : World} {gc gM : Nat} {ob : Obj} {ls : List (List UInt8)} {rows : List Ro} (h : FrX W w gc gM ob ls rows) : ∃ A c qs, w.cell? ⟨gc, 0, none⟩ = some (.slice A qs.length c) ∧ qs.map Pt.l = ls ∧ Pts w A qs := by
  obtain ⟨v, qs, e, hm, hq⟩ := h.ex
  obtain ⟨A, c, rfl, _⟩ := own_form (hm.m.row [])
  exact ⟨A, c, qs, (hm.m.blk []).cell 0, e, own_rd (hm.m.row []), fun q h => hm.rd (hq q h) fun y hy => List.mem_cons_of_mem _ hy⟩

end Go.Proofs.YtnbemfceoianiaaDoor

/- Contracts of mac.Derive, and of the document's filled. -/
namespace Go.Proofs.YtnbemfceoianiaaDoor
set_option linter.unusedVariables false
set_option linter.unusedSimpArgs false
open Go.RowKit

/-- What is tagged in deriving. -/
def frameB (ls : List (List UInt8)) : List UInt8 := (framesL ls).flatten
theorem catP_map (qs : List Pt) : catP qs = (qs.map Pt.l).flatten := by simp [catP, List.flatMap]
theorem frameB_len (ls : List (List UInt8)) (N : Nat) (h : ∀ l ∈ ls, l.length ≤ N) : (frameB ls).length ≤ ls.length * (4 + N) := by
  induction ls with
  | nil => simp [frameB, framesL]
  | cons l ls ih =>
    have h1 := h l (List.mem_cons_self ..)
    have h2 := ih fun x hx => h x (List.mem_cons_of_mem _ hx)
    simp only [frameB, framesL, List.flatMap_cons, List.flatten_append, List.length_append, List.flatten_cons, List.flatten_nil, List.length_nil, List.length_cons] at h2 ⊢
    have h3 : (len4 l.length).length = 4 := rfl
    rw [Nat.add_mul]
    omega


structure FlR (w wr : World) (key : List UInt8) (v1 : Value) : Prop where
  m : ∃ A c xb xr, v1 = .slice A (keyOf key).length c ∧ Mst w wr xb xr ∧ Src w xb xr 1 A (keyOf key).length (by8 (keyOf key))
theorem fillB_get (key : List UInt8) (y : UInt8) {k : Nat} (h : k < 64) : (fillB key y)[k]? = some ((fillZ key).getD k 0 ^^^ y) := by
  unfold fillB
  rw [List.getElem?_map, getD_at (by rw [fillZ_len]; exact h)]; rfl
theorem fillZ_lo (key : List UInt8) {k : Nat} (h : k < (keyOf key).length) : (fillZ key).getD k 0 = (keyOf key).getD k 0 := by
  unfold fillZ
  rw [List.getD_eq_getElem?_getD, List.getElem?_append_left h, List.getD_eq_getElem?_getD]
theorem fillZ_hi (key : List UInt8) {k : Nat} (h : ¬ k < (keyOf key).length) : (fillZ key).getD k 0 = 0 := by
  unfold fillZ
  rw [List.getD_eq_getElem?_getD, List.getElem?_append_right (by omega), List.getElem?_replicate]
  split <;> rfl
theorem upB_getD (L : List UInt8) (k : Nat) : (upB L k).getD k 0 = 0 := by
  unfold upB
  rw [List.getD_eq_getElem?_getD]
  by_cases h : k ≤ L.length
  · rw [List.getElem?_append_right (by simp; omega), List.getElem?_replicate]
    split <;> rfl
  · rw [List.getElem?_eq_none (by simp; omega)]; rfl

end Go.Proofs.YtnbemfceoianiaaDoor

/- Contract of the document's Tag. -/
namespace Go.Proofs.YtnbemfceoianiaaDoor
set_option linter.unusedVariables false
set_option linter.unusedSimpArgs false
open Go.RowKit

section
variable {P : Program} {w W : World} {bl : List (Nat × TypeId × Array Value)}
theorem step_appE {ops : Array Oper} {o : Oper} {a : Act} {K : Act → World → Prop} {Q : Exit → Act → World → Prop} {E : Prop} (hgd : o.guard = none) (s x : Operand) (t : TypeId)
    (ho : o.op = .call { callee := .builtin .append, args := #[s, x], argTypes := #[t, t] })
    (pre : List Ro) {post : List Ro} {e : TypeId} {size n bytes : Nat} {v : Value} {xs : List Value} (hm : Mst W w bl (pre ++ ⟨e, size, v, n, xs⟩ :: post)) (hE : El P t e size bytes) (hs : a.eval s = v)
    (B : Nat) (A : Option Addr) (m c : Nat) (news : List Value) (hx : a.eval x = .slice A m c) (hr : Rd w B size A m news) (h1 : ∀ u ∈ news, u.oneCell' = true)
    (h63 : n + m ≤ maxLen) (hbytes : (n + m) * bytes ≤ 140737488355328)
    (h : ∀ A' c' w' N X, N = n + m → X = xs ++ news → Mst W w' bl (pre ++ ⟨e, size, .slice A' N c', N, X⟩ :: post) → K (a.put o.dst (.slice A' N c')) w') :
    if Region.wanted o (yielded ops a.tmps) = true then Oper.wp P o a w K Q else E :=
  step_appM hgd s x t ho pre hm hE hs B A m c news hx hr h1 h63 hbytes fun A' c' w' hm' => h A' c' w' _ _ rfl rfl hm'
theorem wpList_appE {ops : Array Oper} {rest : List Oper} {o : Oper} {a : Act} {Q : Exit → Act → World → Prop} (hgd : o.guard = none) (s x : Operand) (t : TypeId)
    (ho : o.op = .call { callee := .builtin .append, args := #[s, x], argTypes := #[t, t] })
    (pre : List Ro) {post : List Ro} {e : TypeId} {size n bytes : Nat} {v : Value} {xs : List Value} (hm : Mst W w bl (pre ++ ⟨e, size, v, n, xs⟩ :: post)) (hE : El P t e size bytes) (hs : a.eval s = v)
    (B : Nat) (A : Option Addr) (m c : Nat) (news : List Value) (hx : a.eval x = .slice A m c) (hr : Rd w B size A m news) (h1 : ∀ u ∈ news, u.oneCell' = true)
    (h63 : n + m ≤ maxLen) (hbytes : (n + m) * bytes ≤ 140737488355328)
    (h : ∀ A' c' w' N X, N = n + m → X = xs ++ news → Mst W w' bl (pre ++ ⟨e, size, .slice A' N c', N, X⟩ :: post) → wpList P ops Q rest (a.put o.dst (.slice A' N c')) w') : wpList P ops Q (o :: rest) a w :=
  wpList_appM hgd s x t ho pre hm hE hs B A m c news hx hr h1 h63 hbytes fun A' c' w' hm' => h A' c' w' _ _ rfl rfl hm'
theorem Mst.newE {w2 : World} {ow : List Ro} {t : TypeId} {cs : Array Value} (h : Mst W w bl ow) (hw : w.alloc (.cells cs t) = w2) : Mst W w2 ((w.heap.size, t, cs) :: bl) ow := by
  subst hw
  exact h.new t cs
end
end Go.Proofs.YtnbemfceoianiaaDoor

/- Contracts of the document's Frame and Derive. -/
namespace Go.Proofs.YtnbemfceoianiaaDoor
set_option linter.unusedVariables false
set_option linter.unusedSimpArgs false
open Go.RowKit

theorem frameB_take {ps : List Pt} {k : Nat} {p : Pt} (h : ps[k]? = some p) : frameB ((ps.take (k + 1)).map Pt.l) = frameB ((ps.take k).map Pt.l) ++ len4 p.l.length ++ p.l := by
  have e2 : ps.take (k + 1) = ps.take k ++ [p] := by
    rw [List.take_add_one, h]; rfl
  rw [e2, List.map_append]
  show (framesL (_ ++ [p.l])).flatten = _
  rw [framesL_snoc]
  simp [frameB]
theorem frameP_len (ps : List Pt) (M : Nat) (h : ∀ p ∈ ps, p.l.length ≤ M) (k : Nat) : (frameB ((ps.take k).map Pt.l)).length ≤ ps.length * (4 + M) := by
  have := frameB_len ((ps.take k).map Pt.l) M (by
    intro l hl
    obtain ⟨p, hp, rfl⟩ := List.mem_map.1 hl
    exact h p (List.mem_of_mem_take hp))
  refine Nat.le_trans this (Nat.mul_le_mul_right _ ?_)
  rw [List.length_map, List.length_take]
  omega
theorem len4_cells (m : Nat) (h : m < 4294967296) : [Value.int .u8 ((m : Int) / 16777216), .int .u8 ((m : Int) / 65536 % 256), .int .u8 ((m : Int) / 256 % 256), .int .u8 ((m : Int) % 256)] = by8 (len4 m) := by
  have e : ∀ k : Nat, (((UInt8.ofNat (m >>> k)).toNat : Nat) : Int) = (m : Int) / ((2 ^ k : Nat) : Int) % 256 := fun k => by
    rw [UInt8.toNat_ofNat', Nat.shiftRight_eq_div_pow]
    omega
  have e0 : (((UInt8.ofNat m).toNat : Nat) : Int) = (m : Int) % 256 := by
    rw [UInt8.toNat_ofNat']
    omega
  have e24 := e 24
  have e16 := e 16
  have e8 := e 8
  have d24 : (m : Int) / 16777216 % 256 = (m : Int) / 16777216 := by omega
  simp only [Nat.reducePow, Int.cast_ofNat_Int] at e24 e16 e8
  rw [d24] at e24
  simp only [len4, by8, List.map_cons, List.map_nil, e0, e24, e16, e8]
structure FmR (w wr : World) (v : Value) (l : List UInt8) : Prop where
  m : Mst w wr [] [⟨5, 1, v, l.length, by8 l⟩]
end Go.Proofs.YtnbemfceoianiaaDoor

/- Contract of the document's Derive. -/
namespace Go.Proofs.YtnbemfceoianiaaDoor
set_option linter.unusedVariables false
set_option linter.unusedSimpArgs false
open Go.RowKit

/-- '[]byte(s)'. -/
theorem conv_ex (s : ByteArray) : ∃ (C : World → Nat) (ob : World → Obj), (∀ w, (convert 9 30 (.string s)).run Tryd.prog w = .ok (.slice (some ⟨w.heap.size, 0, none⟩) s.size (C w)) (w.drew.alloc (ob w))) ∧
    ∀ w, ∃ (cs : Array Value) (e : TypeId) (z : Nat × Nat), ob w = .cells cs e z ∧ ∀ (j : Nat) (u : Value), (by8 s.data.toList)[j]? = some u → cs[j]? = some u := by
  refine ⟨fun w => grownCap w s.size 0 5, fun w => .cells (bytesRow s (grownCap w s.size 0 5)) 5 ((bytesRow s (grownCap w s.size 0 5)).size, (bytesRow s (grownCap w s.size 0 5)).size + 1), fun w => ?_, fun w => ⟨_, _, _, rfl, fun j u hu => ?_⟩⟩
  · exact run_bytes_of_string (P := Tryd.prog) w 9 30 5 s Tryd.underlying9 Tryd.underlying30 Tryd.underlying5
  · have hj : j < s.data.size := by
      have := (List.getElem?_eq_some_iff.1 hu).1
      rw [by8_length, Array.length_toList] at this
      exact this
    rw [bytesRow_at s _ j hj, ← hu, by8_get (b := s.data[j]) (by simp [hj])]
theorem wpList_appGE {P : Program} {w W : World} {bl : List (Nat × TypeId × Array Value)} {ops : Array Oper} {rest : List Oper} {o : Oper} {a : Act} {Q : Exit → Act → World → Prop} (hw : Region.wanted o (yielded ops a.tmps) = true) (s x : Operand) (t : TypeId)
    (ho : o.op = .call { callee := .builtin .append, args := #[s, x], argTypes := #[t, t] })
    (pre : List Ro) {post : List Ro} {e : TypeId} {size n bytes : Nat} {v : Value} {xs : List Value} (hm : Mst W w bl (pre ++ ⟨e, size, v, n, xs⟩ :: post)) (hE : El P t e size bytes) (hs : a.eval s = v)
    (B : Nat) (A : Option Addr) (m c : Nat) (news : List Value) (hx : a.eval x = .slice A m c) (hr : Rd w B size A m news) (h1 : ∀ u ∈ news, u.oneCell' = true)
    (h63 : n + m ≤ maxLen) (hbytes : (n + m) * bytes ≤ 140737488355328)
    (h : ∀ A' c' w' N X, N = n + m → X = xs ++ news → Mst W w' bl (pre ++ ⟨e, size, .slice A' N c', N, X⟩ :: post) → wpList P ops Q rest (a.put o.dst (.slice A' N c')) w') : wpList P ops Q (o :: rest) a w :=
  wpList_appG hw s x t ho pre hm hE hs B A m c news hx hr h1 h63 hbytes fun A' c' w' hm' => h A' c' w' _ _ rfl rfl hm'
theorem Mst.emptyE {W w w2 : World} {bl : Bl} {ow : List Ro} {e : TypeId} (h : Mst W w bl ow) (hw : w.alloc (.cells #[] e) = w2) : Mst W w2 bl (⟨e, 1, .slice (some ⟨w.heap.size, 0, none⟩) 0 0, 0, []⟩ :: ow) := by
  subst hw
  exact h.newrow e 1 0 0 #[] (Nat.le_refl _) (by decide) rfl
theorem SZ.marked {W : World} {rows : List Ro} {gM : Nat} {ob : Obj} {l : List UInt8} (h : ∃ (cs : Array Value) (e : TypeId) (z : Nat × Nat), ob = .cells cs e z ∧ ∀ (j : Nat) (u : Value), (by8 l)[j]? = some u → cs[j]? = some u) : SZ W rows gM ob (some ⟨gM, 0, none⟩) l := .inr ⟨rfl, h⟩
theorem SZ.old {W : World} {rows : List Ro} {gM : Nat} {ob : Obj} {A : Option Addr} {l : List UInt8} (h : RB W W.heap.size A l) : SZ W rows gM ob A l := .inl (Src.old h)
section
variable {W w w2 : World} {bl : Bl} {ow : List Ro} {gM : Nat} {ob : Obj}
theorem Mst.markE (h : Mst W w bl ow) (hw : (w.alloc ob).drew = w2) : Mz W w2 bl ow w.heap.size ob := by
  subst hw
  exact h.mark ob
theorem Mz.newrowE (h : Mz W w bl ow gM ob) {e : TypeId} {v : Value} (hw : w.alloc (.cells #[v] e) = w2) : Mz W w2 bl (⟨e, 1, .slice (some ⟨w.heap.size, 0, none⟩) 1 1, 1, [v]⟩ :: ow) gM ob := by
  subst hw
  exact h.newrow e 1 1 1 #[v] (Nat.le_refl _) (by decide) rfl
theorem step_appZ {P : Program} {ops : Array Oper} {o : Oper} {a : Act} {K : Act → World → Prop} {Q : Exit → Act → World → Prop} {E : Prop} (hgd : o.guard = none) (s x : Operand) (t : TypeId)
    (ho : o.op = .call { callee := .builtin .append, args := #[s, x], argTypes := #[t, t] })
    (pre : List Ro) {post : List Ro} {e : TypeId} {size n bytes : Nat} {v : Value} {xs : List Value} (hm : Mz W w bl (pre ++ ⟨e, size, v, n, xs⟩ :: post) gM ob) (hE : El P t e size bytes) (hs : a.eval s = v)
    (B : Nat) (A : Option Addr) (m c : Nat) (news : List Value) (hx : a.eval x = .slice A m c) (hr : Rd w B size A m news) (h1 : ∀ u ∈ news, u.oneCell' = true)
    (h63 : n + m ≤ maxLen) (hbytes : (n + m) * bytes ≤ 140737488355328)
    (h : ∀ A' c' w' N X, N = n + m → X = xs ++ news → Mz W w' bl (pre ++ ⟨e, size, .slice A' N c', N, X⟩ :: post) gM ob → K (a.put o.dst (.slice A' N c')) w') :
    if Region.wanted o (yielded ops a.tmps) = true then Oper.wp P o a w K Q else E := by
  obtain ⟨ht, ⟨i, z, hi, hz, hsize, hby, hzs⟩, hp⟩ := hE
  refine step_app w hgd s x t ho W.heap.size e i z size bytes ht hi hz hsize hby hzs hp v n xs hs (hm.m.row pre) B A m c news hx hr h1 h63 hbytes hm.m.bel.size fun A' c' w' h2 h3 h4 => h A' c' w' _ _ rfl rfl ⟨hm.m.app pre h3 h2 h4, ?_, hm.lo, hm.nb, ?_⟩
  · exact (h3.block gM hm.lt (fun e2 => hm.nr ⟨e, size, v, n, xs⟩ (by simp) e2.symm)).trans hm.z
  · intro y hy
    rcases List.mem_append.1 hy with hy | hy
    · exact hm.nr y (List.mem_append_left _ hy)
    · rcases List.mem_cons.1 hy with rfl | hy
      · rcases h4 with h5 | h5
        · rw [h5]
          exact hm.nr ⟨e, size, v, n, xs⟩ (by simp)
        · rw [h5]
          have := hm.lt
          intro e2
          injection e2
          omega
      · exact hm.nr y (by simp [hy])
/-- A row of slices beside a marked block, as parts. -/
theorem Mz.pts {v : Value} {qs : List Pt} {n : Nat} {X : List Value} {A : Option Addr} {c : Nat} (h : Mz W w bl (⟨30, 1, .slice A n c, n, X⟩ :: ow) gM ob) (hn : n = qs.length) (hX : X = qs.map Pt.v) (hq : ∀ q ∈ qs, SZ W [] gM ob q.A q.l) : Pts w A qs := by
  subst hn hX
  exact ⟨own_rd (h.m.row []), fun q hm => h.rd (hq q hm) (fun _ h => nomatch h)⟩
end

end Go.Proofs.YtnbemfceoianiaaDoor

/- What the laws of the second chapter share. -/
namespace Go.Proofs.YtnbemfceoianiaaDoor
set_option linter.unusedVariables false
open Go.RowKit

/-- A slice's first bytes: how many, as the program reckons it. -/
theorem cut_n (N M : Nat) : ∃ n : Nat, (n : Int) = min (N : Int) M ∧ n ≤ N ∧ n ≤ M := ⟨min N M, by omega, by omega, by omega⟩
theorem few2_cat {ps : List Pt} : (catP (fewP 8 60 ps)).length ≤ 480 := by
  have h1 := catP_len_le (N := 60) (ps := fewP 8 60 ps) (fewP_le 8 60 ps)
  have h2 : (fewP 8 60 ps).length ≤ 8 := by rw [fewP_len]; omega
  omega
end Go.Proofs.YtnbemfceoianiaaDoor
