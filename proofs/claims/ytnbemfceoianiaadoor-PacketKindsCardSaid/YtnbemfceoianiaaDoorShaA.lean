/- ShaP. ShaW. Sha1. Sha2. Sha3. Sha4. Run1. Run2. Run3. Run4. -/
import Derived.Test.YtnbemfceoianiaaDoorBaseA
import Derived.Test.YtnbemfceoianiaaDoorProg
import Derived.Outline
import Derived.Deep.QuietTactic
import Derived.BigQuiet
import Derived.Deep.LoopGhost
import Derived.Deep.RegionWith
import Derived.Great.BuildSlice
import Derived.Test.YtnbemfceoianiaaDoorBaseB
import Derived.StillTailTactics
import Derived.IntWalk
import Derived.Deep.DeepCutAuto
import Derived.Deep.RegionHeld3
/- SHA-256 in plain words, over words of 32 bits; nothing here names the program. -/
namespace Go.Proofs.YtnbemfceoianiaaDoor
set_option linter.unusedVariables false

abbrev Wd := BitVec 32
def rr (x : Wd) (n : Nat) : Wd := x >>> n ||| x <<< (32 - n)
def lsig0 (x : Wd) : Wd := rr x 7 ^^^ rr x 18 ^^^ x >>> 3
def lsig1 (x : Wd) : Wd := rr x 17 ^^^ rr x 19 ^^^ x >>> 10
def usig0 (x : Wd) : Wd := rr x 2 ^^^ rr x 13 ^^^ rr x 22
def usig1 (x : Wd) : Wd := rr x 6 ^^^ rr x 11 ^^^ rr x 25
def chW (x y z : Wd) : Wd := (x &&& y) ^^^ (~~~x &&& z)
def mjW (x y z : Wd) : Wd := (x &&& y) ^^^ (x &&& z) ^^^ (y &&& z)
def kTab : List Wd := [0x428a2f98, 0x71374491, 0xb5c0fbcf, 0xe9b5dba5, 0x3956c25b, 0x59f111f1, 0x923f82a4, 0xab1c5ed5,
  0xd807aa98, 0x12835b01, 0x243185be, 0x550c7dc3, 0x72be5d74, 0x80deb1fe, 0x9bdc06a7, 0xc19bf174,
  0xe49b69c1, 0xefbe4786, 0x0fc19dc6, 0x240ca1cc, 0x2de92c6f, 0x4a7484aa, 0x5cb0a9dc, 0x76f988da,
  0x983e5152, 0xa831c66d, 0xb00327c8, 0xbf597fc7, 0xc6e00bf3, 0xd5a79147, 0x06ca6351, 0x14292967,
  0x27b70a85, 0x2e1b2138, 0x4d2c6dfc, 0x53380d13, 0x650a7354, 0x766a0abb, 0x81c2c92e, 0x92722c85,
  0xa2bfe8a1, 0xa81a664b, 0xc24b8b70, 0xc76c51a3, 0xd192e819, 0xd6990624, 0xf40e3585, 0x106aa070,
  0x19a4c116, 0x1e376c08, 0x2748774c, 0x34b0bcb5, 0x391c0cb3, 0x4ed8aa4a, 0x5b9cca4f, 0x682e6ff3,
  0x748f82ee, 0x78a5636f, 0x84c87814, 0x8cc70208, 0x90befffa, 0xa4506ceb, 0xbef9a3f7, 0xc67178f2]
theorem kTab_len : kTab.length = 64 := rfl

/-- The eight words. -/
structure H8 where
  a : Wd
  b : Wd
  c : Wd
  d : Wd
  e : Wd
  f : Wd
  g : Wd
  h : Wd
def H8.l (s : H8) : List Wd := [s.a, s.b, s.c, s.d, s.e, s.f, s.g, s.h]
theorem H8.l_len (s : H8) : s.l.length = 8 := rfl
def h0 : H8 := ⟨0x6a09e667, 0xbb67ae85, 0x3c6ef372, 0xa54ff53a, 0x510e527f, 0x9b05688c, 0x1f83d9ab, 0x5be0cd19⟩

/-- Four bytes as a word. -/
def wordOf (p q r s : UInt8) : Wd := BitVec.ofNat 32 (p.toNat * 16777216 + q.toNat * 65536 + r.toNat * 256 + s.toNat)
def wordB (b : List UInt8) (i : Nat) : Wd := wordOf (b.getD i 0) (b.getD (i + 1) 0) (b.getD (i + 2) 0) (b.getD (i + 3) 0)
/-- The words of the rounds, so far as k of them. -/
def spreadK (b : List UInt8) : Nat → List Wd
  | 0 => []
  | k + 1 => spreadK b k ++ [if k < 16 then wordB b (4 * k) else (spreadK b k).getD (k - 16) 0 + lsig0 ((spreadK b k).getD (k - 15) 0) + (spreadK b k).getD (k - 7) 0 + lsig1 ((spreadK b k).getD (k - 2) 0)]
theorem spreadK_len (b : List UInt8) (k : Nat) : (spreadK b k).length = k := by
  induction k with
  | zero => rfl
  | succ k ih => simp [spreadK, ih]

/-- One round. -/
def round1 (s : H8) (k w : Wd) : H8 :=
  let one := s.h + usig1 s.e + chW s.e s.f s.g + k + w
  let two := usig0 s.a + mjW s.a s.b s.c
  ⟨one + two, s.a, s.b, s.c, s.d + one, s.e, s.f, s.g⟩
def roundsK (ws : List Wd) (s : H8) : Nat → H8
  | 0 => s
  | k + 1 => round1 (roundsK ws s k) (kTab.getD k 0) (ws.getD k 0)
def H8.add (s t : H8) : H8 := ⟨s.a + t.a, s.b + t.b, s.c + t.c, s.d + t.d, s.e + t.e, s.f + t.f, s.g + t.g, s.h + t.h⟩
/-- A block into the words. -/
def mixW (s : H8) (b : List UInt8) : H8 := s.add (roundsK (spreadK b 64) s 64)
/-- n blocks. -/
def shaN (s : H8) (l : List UInt8) : Nat → H8
  | 0 => s
  | n + 1 => shaN (mixW s (l.take 64)) (l.drop 64) n
/-- All whole blocks of l, and what is left. -/
def shaA (s : H8) (l : List UInt8) : H8 := shaN s l (l.length / 64)
def restA (l : List UInt8) : List UInt8 := l.drop (64 * (l.length / 64))
theorem shaA_step (s : H8) (l : List UInt8) (h : 64 ≤ l.length) : shaA s l = shaA (mixW s (l.take 64)) (l.drop 64) := by
  unfold shaA
  have e : l.length / 64 = (l.drop 64).length / 64 + 1 := by simp only [List.length_drop]; omega
  rw [e]
  rfl
theorem restA_step (l : List UInt8) (h : 64 ≤ l.length) : restA l = restA (l.drop 64) := by
  unfold restA
  rw [List.drop_drop]
  congr 1
  simp only [List.length_drop]
  omega
theorem shaA_end (s : H8) (l : List UInt8) (h : l.length < 64) : shaA s l = s := by
  unfold shaA
  rw [Nat.div_eq_of_lt h]
  rfl
theorem restA_end (l : List UInt8) (h : l.length < 64) : restA l = l := by
  unfold restA
  rw [Nat.div_eq_of_lt h]
  rfl
theorem restA_lt (l : List UInt8) : (restA l).length < 64 := by
  unfold restA
  simp only [List.length_drop]
  omega
theorem restA_len (l : List UInt8) : (restA l).length = l.length % 64 := by
  unfold restA
  simp only [List.length_drop]
  omega
/-- Piece by piece. -/
theorem shaA_append (s : H8) (a b : List UInt8) : shaA s (a ++ b) = shaA (shaA s a) (restA a ++ b) ∧ restA (a ++ b) = restA (restA a ++ b) := by
  obtain ⟨n, hn⟩ : ∃ n, a.length / 64 = n := ⟨_, rfl⟩
  induction n generalizing s a with
  | zero =>
    have h : a.length < 64 := by omega
    rw [shaA_end s a h, restA_end a h]
    exact ⟨rfl, rfl⟩
  | succ n ih =>
    have h : 64 ≤ a.length := by omega
    rw [shaA_step s a h, restA_step a h, shaA_step s (a ++ b) (by simp; omega), restA_step (a ++ b) (by simp; omega)]
    have e1 : (a ++ b).take 64 = a.take 64 := List.take_append_of_le_length h
    have e2 : (a ++ b).drop 64 = a.drop 64 ++ b := List.drop_append_of_le_length h
    rw [e1, e2]
    exact ih (mixW s (a.take 64)) (a.drop 64) (by simp only [List.length_drop]; omega)
/-- What stands behind all bytes. -/
def be8 (n : Nat) : List UInt8 := [UInt8.ofNat (n >>> 56), UInt8.ofNat (n >>> 48), UInt8.ofNat (n >>> 40), UInt8.ofNat (n >>> 32), UInt8.ofNat (n >>> 24), UInt8.ofNat (n >>> 16), UInt8.ofNat (n >>> 8), UInt8.ofNat n]
def padZ (n : Nat) : Nat := (119 - n % 64) % 64
def padL (n : Nat) : List UInt8 := 128 :: (List.replicate (padZ n) 0 ++ be8 (n * 8))
/-- The words' bytes. -/
def be4 (x : Wd) : List UInt8 := [UInt8.ofNat (x.toNat >>> 24), UInt8.ofNat (x.toNat >>> 16), UInt8.ofNat (x.toNat >>> 8), UInt8.ofNat x.toNat]
def outW (s : H8) : List UInt8 := be4 s.a ++ (be4 s.b ++ (be4 s.c ++ (be4 s.d ++ (be4 s.e ++ (be4 s.f ++ (be4 s.g ++ be4 s.h))))))
/-- The digest. -/
def sha (l : List UInt8) : List UInt8 := outW (shaA h0 (l ++ padL l.length))
theorem sha_len (l : List UInt8) : (sha l).length = 32 := rfl
end Go.Proofs.YtnbemfceoianiaaDoor

/- Words of 32 bits as Go's values: what the operations on them give. Over any program. -/
namespace Go.Proofs.YtnbemfceoianiaaDoor
set_option linter.unusedVariables false

/-- A word as a value. -/
def W (x : Wd) : Value := .int .u32 (x.toNat : Int)
theorem W_cells (x : Wd) : (W x).cells = #[W x] := rfl
theorem W_one (x : Wd) : (W x).oneCell' = true := rfl
theorem W_eq (x : Wd) : W x = .int .u32 (x.toNat : Int) := rfl
theorem wrap_u32 (x : Int) : IntKind.u32.wrap x = x % 4294967296 := by simp [IntKind.wrap, IntKind.signed, IntKind.bits]
theorem wrap_u8 (x : Int) : IntKind.u8.wrap x = x % 256 := by simp [IntKind.wrap, IntKind.signed, IntKind.bits]
section
variable {P : Program} (t : TypeId) (x y : Wd) (w : World)
theorem W_add : (binOp .add t (W x) (W y)).run P w = .ok (W (x + y)) w := by
  have h : IntKind.u32.wrap ((x.toNat : Int) + y.toNat) = ((x + y).toNat : Int) := by
    rw [wrap_u32, BitVec.toNat_add]; omega
  simp only [binOp, W, Op.intArith, ne_eq, not_true, if_false]
  simp only [h, Sem.run_pure]
theorem bv (x : Wd) : BitVec.ofInt IntKind.u32.bits (x.toNat : Int) = x := by
  show BitVec.ofInt 32 (x.toNat : Int) = x
  rw [BitVec.ofInt_natCast, BitVec.ofNat_toNat]
  simp
theorem wr (x : Wd) : IntKind.u32.wrap (x.toNat : Int) = (x.toNat : Int) := by
  have := x.isLt
  rw [wrap_u32]; omega
theorem W_xor : (binOp .xor t (W x) (W y)).run P w = .ok (W (x ^^^ y)) w := by
  simp only [binOp, W, Op.intBits, ne_eq, not_true, if_false, bv, Sem.run_pure]
  exact congrArg (fun z => Result.ok (Value.int .u32 z) w) (wr (x ^^^ y))
theorem W_and : (binOp .and t (W x) (W y)).run P w = .ok (W (x &&& y)) w := by
  simp only [binOp, W, Op.intBits, ne_eq, not_true, if_false, bv, Sem.run_pure]
  exact congrArg (fun z => Result.ok (Value.int .u32 z) w) (wr (x &&& y))
theorem W_or : (binOp .or t (W x) (W y)).run P w = .ok (W (x ||| y)) w := by
  simp only [binOp, W, Op.intBits, ne_eq, not_true, if_false, bv, Sem.run_pure]
  exact congrArg (fun z => Result.ok (Value.int .u32 z) w) (wr (x ||| y))
theorem W_shr (k : IntKind) (n : Nat) (hn : n ≤ 32) : (binOp .shr t (W x) (.int k n)).run P w = .ok (W (x >>> n)) w := by
  have h1 : ¬ (n : Int) < 0 := by omega
  have h2 : min (n : Int).toNat IntKind.u32.bits = n := by
    show min (n : Int).toNat 32 = n
    omega
  simp only [binOp, W, Op.shift, if_neg h1, h2, Sem.run_pure]
  congr 2
  rw [BitVec.toNat_ushiftRight, Nat.shiftRight_eq_div_pow, Int.fdiv_eq_ediv_of_nonneg _ (by exact Int.pow_nonneg (by decide))]
  simp
theorem W_shl (k : IntKind) (n : Nat) (hn : n ≤ 32) : (binOp .shl t (W x) (.int k n)).run P w = .ok (W (x <<< n)) w := by
  have h1 : ¬ (n : Int) < 0 := by omega
  have h2 : min (n : Int).toNat IntKind.u32.bits = n := by
    show min (n : Int).toNat 32 = n
    omega
  simp only [binOp, W, Op.shift, if_neg h1, h2, Sem.run_pure]
  congr 2
  rw [BitVec.toNat_shiftLeft, Nat.shiftLeft_eq, wrap_u32]
  simp
theorem W_not : (Op.unary .xor (W x)).run P w = .ok (W (~~~x)) w := by
  have e : (BitVec.ofInt 32 4294967295 ^^^ x : Wd) = ~~~x := by
    rw [show BitVec.ofInt 32 4294967295 = BitVec.allOnes 32 from by decide, BitVec.allOnes_xor]
  have e2 : Op.unary .xor (W x) = pure (.int .u32 (IntKind.u32.wrap ((BitVec.ofInt 32 4294967295 ^^^ BitVec.ofInt 32 (x.toNat : Int) : Wd).toNat : Int))) := rfl
  rw [e2, show BitVec.ofInt 32 (x.toNat : Int) = x from bv x, e, wr]
  rfl
theorem W_store (x : Wd) (p : Addr) (w : World) (hc : (w.cell? p).isSome = true) (hf : w.frozen? p = false) : (store p (W x)).run P w = .ok () (w.setCell p (W x)) := by
  obtain ⟨old, ho⟩ := Option.isSome_iff_exists.1 hc
  simp only [run_store P w _ (W x) _ rfl, ho]
  simp [hf]
end
theorem and31 (n : Nat) (r s : Nat) (h : r + s = 32) (hr : 0 < r) (hs : 0 < s) (P : Program) (t : TypeId) (w : World) : (binOp .and t (.int .u64 (IntKind.u64.wrap (-(r : Int)))) (.int .u64 31)).run P w = .ok (.int .u64 (s : Int)) w := by
  have e : (BitVec.ofInt 64 (IntKind.u64.wrap (-(r : Int))) &&& BitVec.ofInt 64 31).toNat = s := by
    rw [BitVec.toNat_and, BitVec.toNat_ofInt, show (BitVec.ofInt 64 31).toNat = 2 ^ 5 - 1 from by decide, Nat.and_two_pow_sub_one_eq_mod]
    simp only [IntKind.wrap, IntKind.signed, IntKind.bits]
    simp
    omega
  have e2 : binOp .and t (.int .u64 (IntKind.u64.wrap (-(r : Int)))) (.int .u64 31) = pure (.int .u64 (IntKind.u64.wrap ((BitVec.ofInt 64 (IntKind.u64.wrap (-(r : Int))) &&& BitVec.ofInt 64 31).toNat : Int))) := rfl
  rw [e2, e]
  have : IntKind.u64.wrap (s : Int) = s := by
    simp only [IntKind.wrap, IntKind.signed, IntKind.bits]
    simp
    omega
  rw [this]
  rfl
end Go.Proofs.YtnbemfceoianiaaDoor

/- Contracts of package digest: the closure that turns a word, word, table, begun. -/
namespace Go.Proofs.YtnbemfceoianiaaDoor
set_option linter.unusedVariables false
open Go.RowKit

set_option maxRecDepth 100000 in
theorem kTab_one : (kTab.map W).toArray.all (·.oneCell') = true := by kernel_rfl
theorem h0_one : (h0.l.map W).toArray.all (·.oneCell') = true := by kernel_rfl
set_option maxRecDepth 100000 in
theorem wordOf_eq (p q r s : UInt8) : ((BitVec.ofNat 32 p.toNat <<< 24 ||| BitVec.ofNat 32 q.toNat <<< 16) ||| BitVec.ofNat 32 r.toNat <<< 8) ||| BitVec.ofNat 32 s.toNat = wordOf p q r s := by
  have hp := p.toNat_lt
  have hq := q.toNat_lt
  have hr := r.toNat_lt
  have hs := s.toNat_lt
  apply BitVec.eq_of_toNat_eq
  unfold wordOf
  simp only [BitVec.toNat_or, BitVec.toNat_shiftLeft, BitVec.toNat_ofNat]
  rw [Nat.mod_eq_of_lt (a := p.toNat) (by omega), Nat.mod_eq_of_lt (a := q.toNat) (by omega), Nat.mod_eq_of_lt (a := r.toNat) (by omega), Nat.mod_eq_of_lt (a := s.toNat) (by omega)]
  simp only [Nat.shiftLeft_eq]
  rw [Nat.mod_eq_of_lt (a := p.toNat * 2 ^ 24) (by omega), Nat.mod_eq_of_lt (a := q.toNat * 2 ^ 16) (by omega), Nat.mod_eq_of_lt (a := r.toNat * 2 ^ 8) (by omega)]
  have e1 : p.toNat * 2 ^ 24 ||| q.toNat * 2 ^ 16 = (p.toNat * 256 + q.toNat) * 2 ^ 16 := by
    have := Nat.shiftLeft_add_eq_or_of_lt (i := 24) (b := q.toNat * 2 ^ 16) (by omega) p.toNat
    rw [Nat.shiftLeft_eq] at this
    rw [← this]
    omega
  have e2 : (p.toNat * 256 + q.toNat) * 2 ^ 16 ||| r.toNat * 2 ^ 8 = ((p.toNat * 256 + q.toNat) * 256 + r.toNat) * 2 ^ 8 := by
    have := Nat.shiftLeft_add_eq_or_of_lt (i := 16) (b := r.toNat * 2 ^ 8) (by omega) (p.toNat * 256 + q.toNat)
    rw [Nat.shiftLeft_eq] at this
    rw [← this]
    omega
  have e3 : ((p.toNat * 256 + q.toNat) * 256 + r.toNat) * 2 ^ 8 ||| s.toNat = ((p.toNat * 256 + q.toNat) * 256 + r.toNat) * 2 ^ 8 + s.toNat := by
    have := Nat.shiftLeft_add_eq_or_of_lt (i := 8) (b := s.toNat) (by omega) ((p.toNat * 256 + q.toNat) * 256 + r.toNat)
    rw [Nat.shiftLeft_eq] at this
    rw [← this]
  rw [e1, e2, e3]
  omega

end Go.Proofs.YtnbemfceoianiaaDoor

/- Contracts of package digest: spread. -/
namespace Go.Proofs.YtnbemfceoianiaaDoor
set_option linter.unusedVariables false
open Go.RowKit

def Ws (l : List Wd) : Array Value := (l.map W).toArray
theorem Ws_get {l : List Wd} {j : Nat} {x : Wd} (h : l[j]? = some x) : (Ws l)[j]? = some (W x) := by simp [Ws, h]
theorem Ws_getD {l : List Wd} {j : Nat} (h : j < l.length) : (Ws l)[j]? = some (W (l.getD j 0)) := by
  rw [Ws_get (List.getElem?_eq_getElem h), List.getD_eq_getElem?_getD, List.getElem?_eq_getElem h]; rfl
theorem Ws_set (l : List Wd) (j : Nat) (x : Wd) : (Ws l).setIfInBounds j (W x) = Ws (l.set j x) := by simp [Ws, List.map_set]
theorem Ws_one (l : List Wd) : (Ws l).all (·.oneCell') = true := by
  rw [Array.all_eq_true_iff_forall_mem]
  intro v hv
  simp only [Ws, List.mem_toArray, List.mem_map] at hv
  obtain ⟨x, _, rfl⟩ := hv
  rfl
theorem Ws_size (l : List Wd) : (Ws l).size = l.length := by simp [Ws]
/-- The words so far, in their array. -/
def spL (l : List UInt8) (k : Nat) : List Wd := spreadK l k ++ List.replicate (64 - k) 0
theorem spL_len (l : List UInt8) {k : Nat} (h : k ≤ 64) : (spL l k).length = 64 := by simp [spL, spreadK_len]; omega
theorem spL_get (l : List UInt8) {j k : Nat} (h : j < k) : (spL l k)[j]? = some ((spreadK l k).getD j 0) := by
  unfold spL
  rw [List.getElem?_append_left (by rw [spreadK_len]; exact h), List.getElem?_eq_getElem (by rw [spreadK_len]; exact h), List.getD_eq_getElem?_getD, List.getElem?_eq_getElem (by rw [spreadK_len]; exact h)]
  rfl
def spN (l : List UInt8) (k : Nat) : Wd := if k < 16 then wordB l (4 * k) else (spreadK l k).getD (k - 16) 0 + lsig0 ((spreadK l k).getD (k - 15) 0) + (spreadK l k).getD (k - 7) 0 + lsig1 ((spreadK l k).getD (k - 2) 0)
theorem spL_set (l : List UInt8) {k : Nat} (h : k < 64) : (spL l k).set k (spN l k) = spL l (k + 1) := by
  unfold spL
  rw [List.set_append_right _ _ (by rw [spreadK_len]; omega), spreadK_len, Nat.sub_self, show 64 - k = (64 - (k + 1)) + 1 by omega, List.replicate_succ, List.set_cons_zero]
  show _ = (spreadK l k ++ [spN l k]) ++ _
  rw [List.append_assoc]
  rfl
theorem spL_0 (l : List UInt8) : spL l 0 = List.replicate 64 0 := rfl
theorem spL_64 (l : List UInt8) : spL l 64 = spreadK l 64 := by simp [spL]

theorem by8_getD {l : List UInt8} {k : Nat} (h : k < l.length) : (by8 l)[k]? = some (.int .u8 ((l.getD k 0).toNat : Int)) := by
  rw [by8_get (List.getElem?_eq_getElem h), List.getD_eq_getElem?_getD, List.getElem?_eq_getElem h]; rfl
theorem zero64 : Ws (List.replicate 64 0) = #[Value.int IntKind.u32 0, Value.int IntKind.u32 0, Value.int IntKind.u32 0, Value.int IntKind.u32 0, Value.int IntKind.u32 0, Value.int IntKind.u32 0, Value.int IntKind.u32 0, Value.int IntKind.u32 0, Value.int IntKind.u32 0, Value.int IntKind.u32 0, Value.int IntKind.u32 0, Value.int IntKind.u32 0, Value.int IntKind.u32 0, Value.int IntKind.u32 0, Value.int IntKind.u32 0, Value.int IntKind.u32 0, Value.int IntKind.u32 0, Value.int IntKind.u32 0, Value.int IntKind.u32 0, Value.int IntKind.u32 0, Value.int IntKind.u32 0, Value.int IntKind.u32 0, Value.int IntKind.u32 0, Value.int IntKind.u32 0, Value.int IntKind.u32 0, Value.int IntKind.u32 0, Value.int IntKind.u32 0, Value.int IntKind.u32 0, Value.int IntKind.u32 0, Value.int IntKind.u32 0, Value.int IntKind.u32 0, Value.int IntKind.u32 0, Value.int IntKind.u32 0, Value.int IntKind.u32 0, Value.int IntKind.u32 0, Value.int IntKind.u32 0, Value.int IntKind.u32 0, Value.int IntKind.u32 0, Value.int IntKind.u32 0, Value.int IntKind.u32 0, Value.int IntKind.u32 0, Value.int IntKind.u32 0, Value.int IntKind.u32 0, Value.int IntKind.u32 0, Value.int IntKind.u32 0, Value.int IntKind.u32 0, Value.int IntKind.u32 0, Value.int IntKind.u32 0, Value.int IntKind.u32 0, Value.int IntKind.u32 0, Value.int IntKind.u32 0, Value.int IntKind.u32 0, Value.int IntKind.u32 0, Value.int IntKind.u32 0, Value.int IntKind.u32 0, Value.int IntKind.u32 0, Value.int IntKind.u32 0, Value.int IntKind.u32 0, Value.int IntKind.u32 0, Value.int IntKind.u32 0, Value.int IntKind.u32 0, Value.int IntKind.u32 0, Value.int IntKind.u32 0, Value.int IntKind.u32 0] := rfl
end Go.Proofs.YtnbemfceoianiaaDoor

/- Contracts of package digest: mix. -/
namespace Go.Proofs.YtnbemfceoianiaaDoor
set_option linter.unusedVariables false
open Go.RowKit

/-- Words ahead of other cells. -/
def hcs (l : List Wd) (rest : List Value) : Array Value := (l.map W ++ rest).toArray
theorem hcs_get {l : List Wd} {rest : List Value} {j : Nat} {x : Wd} (h : l[j]? = some x) : (hcs l rest)[j]? = some (W x) := by
  have hj : j < l.length := (List.getElem?_eq_some_iff.1 h).1
  simp only [hcs, List.getElem?_toArray]
  rw [List.getElem?_append_left (by simpa using hj)]
  simp [h]
theorem hcs_set (l : List Wd) (rest : List Value) {j : Nat} (hj : j < l.length) (x : Wd) : (hcs l rest).setIfInBounds j (W x) = hcs (l.set j x) rest := by
  simp only [hcs, List.setIfInBounds_toArray]
  rw [List.set_append_left _ _ (by simpa using hj), ← List.map_set]
/-- The first k words of two rows added. -/
def adK (s v : List Wd) (k : Nat) : List Wd := (List.zipWith (· + ·) s v).take k ++ s.drop k
theorem adK_len (s v : List Wd) (k : Nat) (h : s.length = v.length) : (adK s v k).length = s.length := by
  simp only [adK, List.length_append, List.length_take, List.length_drop, List.length_zipWith]
  omega
theorem adK_get (s v : List Wd) (k : Nat) (h : s.length = v.length) (hk : k < s.length) : (adK s v k)[k]? = some (s.getD k 0) := by
  have e : ((List.zipWith (· + ·) s v).take k).length = k := by simp; omega
  unfold adK
  rw [List.getElem?_append_right (by omega), e, Nat.sub_self, List.getElem?_drop, Nat.add_zero, List.getElem?_eq_getElem hk, List.getD_eq_getElem?_getD, List.getElem?_eq_getElem hk]
  rfl
theorem adK_set (s v : List Wd) (k : Nat) (h : s.length = v.length) (hk : k < s.length) : (adK s v k).set k (s.getD k 0 + v.getD k 0) = adK s v (k + 1) := by
  have e : ((List.zipWith (· + ·) s v).take k).length = k := by simp; omega
  unfold adK
  rw [List.set_append_right _ _ (by omega), e, Nat.sub_self, List.drop_eq_getElem_cons hk, List.set_cons_zero, List.take_succ_eq_append_getElem (by simp; omega), List.append_assoc]
  have hv : k < v.length := by omega
  simp [List.getD_eq_getElem?_getD, List.getElem?_eq_getElem hk, List.getElem?_eq_getElem hv]
theorem adK_0 (s v : List Wd) : adK s v 0 = s := by simp [adK]
theorem adK_8 (s v : H8) : adK s.l v.l 8 = (s.add v).l := rfl

abbrev Z64 : Array Value := #[Value.int IntKind.u32 0, Value.int IntKind.u32 0, Value.int IntKind.u32 0, Value.int IntKind.u32 0, Value.int IntKind.u32 0, Value.int IntKind.u32 0, Value.int IntKind.u32 0, Value.int IntKind.u32 0, Value.int IntKind.u32 0, Value.int IntKind.u32 0, Value.int IntKind.u32 0, Value.int IntKind.u32 0, Value.int IntKind.u32 0, Value.int IntKind.u32 0, Value.int IntKind.u32 0, Value.int IntKind.u32 0, Value.int IntKind.u32 0, Value.int IntKind.u32 0, Value.int IntKind.u32 0, Value.int IntKind.u32 0, Value.int IntKind.u32 0, Value.int IntKind.u32 0, Value.int IntKind.u32 0, Value.int IntKind.u32 0, Value.int IntKind.u32 0, Value.int IntKind.u32 0, Value.int IntKind.u32 0, Value.int IntKind.u32 0, Value.int IntKind.u32 0, Value.int IntKind.u32 0, Value.int IntKind.u32 0, Value.int IntKind.u32 0, Value.int IntKind.u32 0, Value.int IntKind.u32 0, Value.int IntKind.u32 0, Value.int IntKind.u32 0, Value.int IntKind.u32 0, Value.int IntKind.u32 0, Value.int IntKind.u32 0, Value.int IntKind.u32 0, Value.int IntKind.u32 0, Value.int IntKind.u32 0, Value.int IntKind.u32 0, Value.int IntKind.u32 0, Value.int IntKind.u32 0, Value.int IntKind.u32 0, Value.int IntKind.u32 0, Value.int IntKind.u32 0, Value.int IntKind.u32 0, Value.int IntKind.u32 0, Value.int IntKind.u32 0, Value.int IntKind.u32 0, Value.int IntKind.u32 0, Value.int IntKind.u32 0, Value.int IntKind.u32 0, Value.int IntKind.u32 0, Value.int IntKind.u32 0, Value.int IntKind.u32 0, Value.int IntKind.u32 0, Value.int IntKind.u32 0, Value.int IntKind.u32 0, Value.int IntKind.u32 0, Value.int IntKind.u32 0, Value.int IntKind.u32 0]
abbrev Z8 : Array Value := #[Value.int IntKind.u32 0, Value.int IntKind.u32 0, Value.int IntKind.u32 0, Value.int IntKind.u32 0, Value.int IntKind.u32 0, Value.int IntKind.u32 0, Value.int IntKind.u32 0, Value.int IntKind.u32 0]
/-- What a round writes. -/
abbrev rdA (a b cc d e f gg h y x : Wd) : Array Value := #[W (h + (rr e 6 ^^^ rr e 11 ^^^ rr e 25) + (e &&& f ^^^ ~~~e &&& gg) + y + x + ((rr a 2 ^^^ rr a 13 ^^^ rr a 22) + (a &&& b ^^^ a &&& cc ^^^ b &&& cc))), W a, W b, W cc, W (d + (h + (rr e 6 ^^^ rr e 11 ^^^ rr e 25) + (e &&& f ^^^ ~~~e &&& gg) + y + x)), W e, W f, W gg]
theorem rdA_eq (a b cc d e f gg h y x : Wd) : Ws (round1 ⟨a, b, cc, d, e, f, gg, h⟩ y x).l = rdA a b cc d e f gg h y x := rfl
/-- Two arrays that were just made and filled. -/
theorem two_new (w w2 : World) (h : Mst w w2 [] []) (T : TypeId) (Z K1 K2 : Array Value) : Bk ((w2.alloc (.cells Z T)).alloc (.cells Z T)) w2.heap.size T Z ∧
    Bk (((w2.alloc (.cells Z T)).alloc (.cells Z T)).setRow w2.heap.size K1) (w2.heap.size + 1) T Z ∧
    Mst w ((((w2.alloc (.cells Z T)).alloc (.cells Z T)).setRow w2.heap.size K1).setRow (w2.heap.size + 1) K2) [(w2.heap.size + 1, T, K2), (w2.heap.size, T, K1)] [] := by
  have m2 := (h.new T Z).new T Z
  rw [show (w2.alloc (.cells Z T)).heap.size = w2.heap.size + 1 by simp] at m2
  have m4 := Mst.setRow (bl := []) [_] m2 K1
  have m5 := Mst.setRow (bl := []) [] m4 K2
  exact ⟨m2.blk [_], m4.blk [], m5⟩
end Go.Proofs.YtnbemfceoianiaaDoor

/- Contracts of package digest: all whole blocks of a slice; out. -/
namespace Go.Proofs.YtnbemfceoianiaaDoor
set_option linter.unusedVariables false
open Go.RowKit

theorem shaN_snoc (s : H8) (l : List UInt8) (k : Nat) : shaN s l (k + 1) = mixW (shaN s l k) ((l.drop (64 * k)).take 64) := by
  induction k generalizing s l with
  | zero => rfl
  | succ k ih =>
    show shaN (mixW s (l.take 64)) (l.drop 64) (k + 1) = mixW (shaN (mixW s (l.take 64)) (l.drop 64) k) _
    rw [ih, List.drop_drop, show 64 + 64 * k = 64 * (k + 1) by omega]
/-- A slice's rest behind 64 elements. -/
theorem slice64 (b o n c : Nat) (hn : 64 ≤ n) (hc : n ≤ c) (hm : c ≤ 9223372036854775807) : ∃ A', (∀ w, (Instr.sliceAt 30 (.slice (some ⟨b, o, none⟩) n c) (some (.int .i64 64)) none none).run Tryd.prog w = .ok (.slice A' (n - 64) (c - 64)) w) ∧ (n ≠ 64 → A' = some ⟨b, o + 64, none⟩) := by
  have h1 : (64 : Int) ≤ n := by omega
  have h2 : (n : Int) ≤ c := by omega
  by_cases h : c = 64
  · subst h
    refine ⟨some ⟨b, o, none⟩, fun w => ?_, fun h => by omega⟩
    go_simp
  · refine ⟨some ⟨b, o + 64, none⟩, fun w => ?_, fun _ => rfl⟩
    go_simp

structure AlR (w wr : World) (g : Nat) (T : TypeId) (rest : List Value) (s : H8) (l : List UInt8) (b o c k : Nat) (A' : Option Addr) (n' c' : Nat) : Prop where
  on : On w wr g
  bg : Bk wr g T (hcs (shaN s l k).l rest)
  ad : 64 * k < l.length → A' = some ⟨b, o + 64 * k, none⟩
  hn : n' = l.length - 64 * k
  hc : n' ≤ c' ∧ c' ≤ c

theorem info_arr32 : (Tryd.prog.info? 31).map (·.size) = some 32 := by kernel_rfl
/-- Bytes of a word. -/
theorem W_byte (x : Wd) (w : World) : (convert 68 5 (W x)).run Tryd.prog w = .ok (.int .u8 ((UInt8.ofNat x.toNat).toNat : Int)) w := by
  have : (convert 68 5 (W x)).run Tryd.prog w = .ok (.int .u8 (IntKind.u8.wrap (x.toNat : Int))) w := by
    unfold W
    go_simp
  rw [this, wrap_u8]
  congr 2
theorem W_byteS (x : Wd) (n : Nat) (w : World) : (convert 68 5 (W (x >>> n))).run Tryd.prog w = .ok (.int .u8 ((UInt8.ofNat (x.toNat >>> n)).toNat : Int)) w := by
  rw [W_byte, BitVec.toNat_ushiftRight]
/-- The first k of a row's bytes, and nothing behind them. -/
def upB (L : List UInt8) (k : Nat) : List UInt8 := L.take k ++ List.replicate (L.length - k) 0
theorem upB_len (L : List UInt8) {k : Nat} (h : k ≤ L.length) : (upB L k).length = L.length := by simp [upB]; omega
theorem upB_set (L : List UInt8) {k : Nat} {x : UInt8} (h : L[k]? = some x) : (upB L k).set k x = upB L (k + 1) := by
  have hk : k < L.length := (List.getElem?_eq_some_iff.1 h).1
  have e : (L.take k).length = k := by simp; omega
  unfold upB
  rw [List.set_append_right _ _ (by omega), e, Nat.sub_self, show L.length - k = (L.length - (k + 1)) + 1 by omega, List.replicate_succ, List.set_cons_zero, List.take_succ_eq_append_getElem hk, List.append_assoc]
  rw [List.getElem?_eq_getElem hk] at h
  injection h with h
  rw [h]
  rfl
def b8a (l : List UInt8) : Array Value := (by8 l).toArray
theorem b8a_set (l : List UInt8) (k : Nat) (b : UInt8) : (b8a l).setIfInBounds k (.int .u8 (b.toNat : Int)) = b8a (l.set k b) := by simp [b8a, by8_set]
theorem b8a_get {l : List UInt8} {k : Nat} (h : k < l.length) : (b8a l)[k]? = some (.int .u8 ((l.getD k 0).toNat : Int)) := by
  simp only [b8a, List.getElem?_toArray]
  exact by8_getD h
theorem b8a_size (l : List UInt8) : (b8a l).size = l.length := by simp [b8a, by8_length]
theorem b8a_one (l : List UInt8) : (b8a l).all (·.oneCell') = true := by
  rw [Array.all_eq_true_iff_forall_mem]
  intro v hv
  exact by8_one l v (by simpa [b8a] using hv)
abbrev Y32 : Array Value := #[Value.int IntKind.u8 0, Value.int IntKind.u8 0, Value.int IntKind.u8 0, Value.int IntKind.u8 0, Value.int IntKind.u8 0, Value.int IntKind.u8 0, Value.int IntKind.u8 0, Value.int IntKind.u8 0, Value.int IntKind.u8 0, Value.int IntKind.u8 0, Value.int IntKind.u8 0, Value.int IntKind.u8 0, Value.int IntKind.u8 0, Value.int IntKind.u8 0, Value.int IntKind.u8 0, Value.int IntKind.u8 0, Value.int IntKind.u8 0, Value.int IntKind.u8 0, Value.int IntKind.u8 0, Value.int IntKind.u8 0, Value.int IntKind.u8 0, Value.int IntKind.u8 0, Value.int IntKind.u8 0, Value.int IntKind.u8 0, Value.int IntKind.u8 0, Value.int IntKind.u8 0, Value.int IntKind.u8 0, Value.int IntKind.u8 0, Value.int IntKind.u8 0, Value.int IntKind.u8 0, Value.int IntKind.u8 0, Value.int IntKind.u8 0]
theorem zero32 (L : List UInt8) (h : L.length = 32) : b8a (upB L 0) = Y32 := by
  unfold upB
  rw [h]
  rfl
theorem out_at (s : H8) (k : Nat) (h : k < 8) : (outW s)[4 * k]? = some (UInt8.ofNat ((s.l.getD k 0).toNat >>> 24)) ∧ (outW s)[4 * k + 1]? = some (UInt8.ofNat ((s.l.getD k 0).toNat >>> 16)) ∧
    (outW s)[4 * k + 2]? = some (UInt8.ofNat ((s.l.getD k 0).toNat >>> 8)) ∧ (outW s)[4 * k + 3]? = some (UInt8.ofNat (s.l.getD k 0).toNat) := by
  have h8 : k = 0 ∨ k = 1 ∨ k = 2 ∨ k = 3 ∨ k = 4 ∨ k = 5 ∨ k = 6 ∨ k = 7 := by omega
  rcases h8 with rfl | rfl | rfl | rfl | rfl | rfl | rfl | rfl <;> exact ⟨rfl, rfl, rfl, rfl⟩
theorem outW_len (s : H8) : (outW s).length = 32 := rfl

structure OuR (w wr : World) (s : H8) (k : Nat) : Prop where
  m : Mst w wr [(w.heap.size + 1, 31, b8a (upB (outW s) (4 * k))), (w.heap.size, 31, Y32)] []
end Go.Proofs.YtnbemfceoianiaaDoor

/- Contracts of package digest: a running digest: what it is, Len, Add. -/
namespace Go.Proofs.YtnbemfceoianiaaDoor
set_option linter.unusedVariables false
open Go.RowKit

/-- The cells of a running digest: on, what is left, how many. -/
def told : Option (List UInt8) → List UInt8 := fun st => st.getD []
def hw : Option (List UInt8) → List Wd
  | none => List.replicate 8 0
  | some l => (shaA h0 l).l
theorem hw_len (st : Option (List UInt8)) : (hw st).length = 8 := by cases st <;> rfl
def rtl (st : Option (List UInt8)) (A : Option Addr) (c : Nat) : List Value := [.bool st.isSome, .slice A (restA (told st)).length c, .int .i64 ((told st).length : Nat)]
def rcells (st : Option (List UInt8)) (A : Option Addr) (c : Nat) : Array Value := hcs (hw st) (rtl st A c)
/-- Parts, by what the memory of a call is known to hold. -/
def SPts (W : World) (xb : Bl) (xr : List Ro) (A : Option Addr) (ps : List Pt) : Prop := Src W xb xr 1 A ps.length (ps.map Pt.v) ∧ ∀ p ∈ ps, Src W xb xr 1 p.A p.l.length (by8 p.l)
theorem Mst.pts {W w : World} {xb : Bl} {xr : List Ro} {A : Option Addr} {ps : List Pt} (h : Mst W w xb xr) (hp : SPts W xb xr A ps) : Pts w A ps := ⟨h.src hp.1, fun p hm => h.src (hp.2 p hm)⟩
theorem SPts.sub {W : World} {xb xb' : Bl} {xr xr' : List Ro} {A : Option Addr} {ps : List Pt} (h : SPts W xb xr A ps) (h1 : ∀ x ∈ xb, x ∈ xb') (h2 : ∀ y ∈ xr, y ∈ xr') : SPts W xb' xr' A ps := ⟨h.1.sub h1 h2, fun p hm => (h.2 p hm).sub h1 h2⟩
theorem SPts.nil_ (W : World) (xb : Bl) (xr : List Ro) (A : Option Addr) : SPts W xb xr A [] := ⟨Src.nil_ _ _ _ _ _, by simp⟩

/-- Cells, one behind the other. -/
def setAll : Array Value → Nat → List Value → Array Value
  | cs, _, [] => cs
  | cs, o, v :: vs => setAll (cs.setIfInBounds o v) (o + 1) vs
theorem Mst.putCells {W wr : World} {bl : Bl} {ow : List Ro} (pre : Bl) {post : Bl} {g : Nat} {t : TypeId} : ∀ (vs : List Value) (o : Nat) (wr : World) (cs : Array Value), Mst W wr (pre ++ (g, t, cs) :: post) ow →
    Mst W (wr.setCells g o vs) (pre ++ (g, t, setAll cs o vs) :: post) ow
  | [], _, _, _, h => h
  | v :: vs, o, wr, cs, h => Mst.putCells (bl := bl) (wr := wr) pre vs (o + 1) _ _ (h.put pre o v)
theorem set_begun (rest : List Value) (s : H8) : setAll (hcs (List.replicate 8 0) rest) 0 (s.l.map W) = hcs s.l rest := by
  simp only [H8.l, List.map_cons, List.map_nil, setAll]
  rw [hcs_set _ _ (by simp), hcs_set _ _ (by simp), hcs_set _ _ (by simp), hcs_set _ _ (by simp), hcs_set _ _ (by simp), hcs_set _ _ (by simp), hcs_set _ _ (by simp), hcs_set _ _ (by simp)]
  rfl
theorem Bk.there {w : World} {g : Nat} {t : TypeId} {cs : Array Value} (h : Bk w g t cs) {o n : Nat} (hn : o + n ≤ cs.size) : w.there g o n := fun j hj => ⟨by
  rw [h.cell]
  simp
  omega, h.fr _⟩
theorem hcs_size (l : List Wd) (rest : List Value) : (hcs l rest).size = l.length + rest.length := by simp [hcs]
theorem hcs_rest (l : List Wd) (rest : List Value) (j : Nat) : (hcs l rest)[l.length + j]? = rest[j]? := by
  simp only [hcs, List.getElem?_toArray]
  rw [List.getElem?_append_right (by simp)]
  simp
theorem hcs_setR (l : List Wd) (rest : List Value) (j : Nat) (v : Value) : (hcs l rest).setIfInBounds (l.length + j) v = hcs l (rest.set j v) := by
  simp only [hcs, List.setIfInBounds_toArray]
  rw [List.set_append_right _ _ (by simp)]
  simp

end Go.Proofs.YtnbemfceoianiaaDoor

/- Contracts of package digest: Copy, Len, Running.Sum, Sum. -/
namespace Go.Proofs.YtnbemfceoianiaaDoor
set_option linter.unusedVariables false
open Go.RowKit

theorem rcells_size (st : Option (List UInt8)) (A : Option Addr) (c : Nat) : (rcells st A c).size = 11 := by
  show (hcs (hw st) (rtl st A c)).size = 11
  rw [hcs_size, hw_len]
  rfl
theorem rcells_one (st : Option (List UInt8)) (A : Option Addr) (c : Nat) : (rcells st A c).all (·.oneCell') = true := by
  rw [Array.all_eq_true_iff_forall_mem]
  intro v hv
  simp only [rcells, hcs, List.mem_toArray, List.mem_append, List.mem_map, rtl] at hv
  rcases hv with ⟨x, _, rfl⟩ | hv
  · rfl
  · simp only [List.mem_cons, List.not_mem_nil, or_false] at hv
    rcases hv with rfl | rfl | rfl <;> rfl
theorem rcells_left (st : Option (List UInt8)) (A : Option Addr) (c : Nat) : (rcells st A c)[9]? = some (.slice A (restA (told st)).length c) := by
  have := hcs_rest (hw st) (rtl st A c) 1
  rw [hw_len] at this
  exact this
theorem rcells_n (st : Option (List UInt8)) (A : Option Addr) (c : Nat) : (rcells st A c)[10]? = some (.int .i64 ((told st).length : Nat)) := by
  have := hcs_rest (hw st) (rtl st A c) 2
  rw [hw_len] at this
  exact this
theorem rcells_setL (st : Option (List UInt8)) (A A' : Option Addr) (c c' : Nat) : (rcells st A c).setIfInBounds 9 (.slice A' (restA (told st)).length c') = rcells st A' c' := by
  have := hcs_setR (hw st) (rtl st A c) 1 (.slice A' (restA (told st)).length c')
  rw [hw_len] at this
  exact this


abbrev Z67 : Array Value := #[.int .u32 0, .int .u32 0, .int .u32 0, .int .u32 0, .int .u32 0, .int .u32 0, .int .u32 0, .int .u32 0, .bool false, .slice none 0 0, .int .i64 0]
theorem Z67_eq : Z67 = rcells none none 0 := rfl
/-- What is put behind the bytes, with j zeros as yet. -/
def endZ (j : Nat) : List UInt8 := 128 :: List.replicate j 0
theorem endZ_len (j : Nat) : (endZ j).length = j + 1 := by simp [endZ]
theorem endZ_succ (j : Nat) : endZ j ++ [0] = endZ (j + 1) := by simp [endZ, List.replicate_succ']
def endL (n k : Nat) : List UInt8 := endZ (padZ n) ++ (be8 (n * 8)).take k
theorem endL_8 (n : Nat) : endL n 8 = padL n := by
  unfold endL padL endZ
  rw [List.take_of_length_le (by simp [be8])]
  rfl
theorem endL_succ (n k : Nat) (h : k < 8) : endL n k ++ [UInt8.ofNat ((n * 8) >>> (8 * (7 - k)))] = endL n (k + 1) := by
  unfold endL
  have hk : k < (be8 (n * 8)).length := by simpa [be8] using h
  rw [List.take_succ_eq_append_getElem hk, List.append_assoc]
  congr 2
  have h8 : k = 0 ∨ k = 1 ∨ k = 2 ∨ k = 3 ∨ k = 4 ∨ k = 5 ∨ k = 6 ∨ k = 7 := by omega
  rcases h8 with rfl | rfl | rfl | rfl | rfl | rfl | rfl | rfl <;> rfl
theorem padZ_lt (n : Nat) : padZ n < 64 := Nat.mod_lt _ (by decide)

theorem len_byte (n k : Nat) : ((n : Int) * 8 / 2 ^ (8 * (7 - k)) % 256) = ((UInt8.ofNat ((n * 8) >>> (8 * (7 - k)))).toNat : Int) := by
  rw [Nat.shiftRight_eq_div_pow]
  simp
theorem endL_len (n k : Nat) (hk : k ≤ 8) : (endL n k).length = padZ n + 1 + k := by
  simp [endL, endZ_len, be8]
  omega
structure SuR (W0 wr : World) (xb : Bl) (xr : List Ro) (x : Nat × TypeId × Array Value) (hr : List Ro) (v : Value) (l : List UInt8) : Prop where
  m : Mst W0 wr (x :: xb) (⟨5, 1, v, l.length, by8 l⟩ :: (hr ++ xr))
end Go.Proofs.YtnbemfceoianiaaDoor

/- Contracts of package digest: Sum. -/
namespace Go.Proofs.YtnbemfceoianiaaDoor
set_option linter.unusedVariables false
open Go.RowKit

theorem Pts.old {w : World} {A : Option Addr} {ps : List Pt} (h : Pts w A ps) (bl : Bl) (ow : List Ro) : SPts w bl ow A ps := ⟨Src.old h.1, fun p hp => Src.old (h.2 p hp)⟩
end Go.Proofs.YtnbemfceoianiaaDoor

/- A nil running digest; an append in a drawn region behind a guard that holds. -/
namespace Go.Proofs.YtnbemfceoianiaaDoor
set_option linter.unusedVariables false
open Go.RowKit

section
variable {P : Program} {w W : World} {bl : List (Nat × TypeId × Array Value)}
theorem step_appW {ops : Array Oper} {o : Oper} {a : Act} {K : Act → World → Prop} {Q : Exit → Act → World → Prop} {E : Prop} (hw : Region.wanted o (yielded ops a.tmps) = true) (s x : Operand) (t : TypeId)
    (ho : o.op = .call { callee := .builtin .append, args := #[s, x], argTypes := #[t, t] })
    (pre : List Ro) {post : List Ro} {e : TypeId} {size n bytes : Nat} {v : Value} {xs : List Value} (hm : Mst W w bl (pre ++ ⟨e, size, v, n, xs⟩ :: post)) (hE : El P t e size bytes) (hs : a.eval s = v)
    (B : Nat) (A : Option Addr) (m c : Nat) (news : List Value) (hx : a.eval x = .slice A m c) (hr : Rd w B size A m news) (h1 : ∀ u ∈ news, u.oneCell' = true)
    (h63 : n + m ≤ maxLen) (hbytes : (n + m) * bytes ≤ 140737488355328)
    (h : ∀ A' c' w', Mst W w' bl (pre ++ ⟨e, size, .slice A' (n + m) c', n + m, xs ++ news⟩ :: post) → K (a.put o.dst (.slice A' (n + m) c')) w') :
    if Region.wanted o (yielded ops a.tmps) = true then Oper.wp P o a w K Q else E := by
  obtain ⟨ht, ⟨i, z, hi, hz, hsize, hby, hzs⟩, hp⟩ := hE
  rw [if_pos hw]
  exact wp_app w s x t ho W.heap.size e i z size bytes ht hi hz hsize hby hzs hp v n xs hs (hm.row pre) B A m c news hx hr h1 h63 hbytes hm.bel.size fun A' c' w' h2 h3 h4 => h A' c' w' (hm.app pre h3 h2 h4)
end

end Go.Proofs.YtnbemfceoianiaaDoor
