/- ShaP. ShaW. Sha1. Sha2. Sha3. Sha4. Run1. Run2. Run3. Run4. -/
import Derived.Test.YtnbemfceoianiaaBaseA
import Derived.Test.YtnbemfceoianiaaProg
import Derived.Outline
import Derived.Deep.QuietTactic
import Derived.BigQuiet
import Derived.Deep.LoopGhost
import Derived.Deep.RegionWith
import Derived.Great.BuildSlice
import Derived.Test.YtnbemfceoianiaaBaseB
import Derived.StillTailTactics
import Derived.IntWalk
import Derived.Deep.DeepCutAuto
import Derived.Deep.RegionHeld3
/- SHA-256 in plain words, over words of 32 bits; nothing here names the program. -/
namespace Go.Proofs.Ytnbemfceoianiaa
set_option linter.unusedVariables false

abbrev Wd := BitVec 32
def rr (x : Wd) (n : Nat) : Wd := x >>> n ||| x <<< (32 - n)
def lsig0 (x : Wd) : Wd := rr x 7 ^^^ rr x 18 ^^^ x >>> 3
def lsig1 (x : Wd) : Wd := rr x 17 ^^^ rr x 19 ^^^ x >>> 10
def usig0 (x : Wd) : Wd := rr x 2 ^^^ rr x 13 ^^^ rr x 22
def usig1 (x : Wd) : Wd := rr x 6 ^^^ rr x 11 ^^^ rr x 25
def chW (x y z : Wd) : Wd := (x &&& y) ^^^ (~~~x &&& z)
def mjW (x y z : Wd) : Wd := (x &&& y) ^^^ (x &&& z) ^^^ (y &&& z)
def kTab : List Wd := [0x428a2f98, 0x71374491, 0xb5c0fbcf, 0xe9b5dba5, 0x3956c25b, 0x59f111f1, 0x923f82a4, 0xab1c5ed5,
  0xd807aa98, 0x12835b01, 0x243185be, 0x550c7dc3, 0x72be5d74, 0x80deb1fe, 0x9bdc06a7, 0xc19bf174,
  0xe49b69c1, 0xefbe4786, 0x0fc19dc6, 0x240ca1cc, 0x2de92c6f, 0x4a7484aa, 0x5cb0a9dc, 0x76f988da,
  0x983e5152, 0xa831c66d, 0xb00327c8, 0xbf597fc7, 0xc6e00bf3, 0xd5a79147, 0x06ca6351, 0x14292967,
  0x27b70a85, 0x2e1b2138, 0x4d2c6dfc, 0x53380d13, 0x650a7354, 0x766a0abb, 0x81c2c92e, 0x92722c85,
  0xa2bfe8a1, 0xa81a664b, 0xc24b8b70, 0xc76c51a3, 0xd192e819, 0xd6990624, 0xf40e3585, 0x106aa070,
  0x19a4c116, 0x1e376c08, 0x2748774c, 0x34b0bcb5, 0x391c0cb3, 0x4ed8aa4a, 0x5b9cca4f, 0x682e6ff3,
  0x748f82ee, 0x78a5636f, 0x84c87814, 0x8cc70208, 0x90befffa, 0xa4506ceb, 0xbef9a3f7, 0xc67178f2]
theorem kTab_len : kTab.length = 64 := rfl

/-- The eight words. -/
structure H8 where
  a : Wd
  b : Wd
  c : Wd
  d : Wd
  e : Wd
  f : Wd
  g : Wd
  h : Wd
def H8.l (s : H8) : List Wd := [s.a, s.b, s.c, s.d, s.e, s.f, s.g, s.h]
theorem H8.l_len (s : H8) : s.l.length = 8 := rfl
def h0 : H8 := ⟨0x6a09e667, 0xbb67ae85, 0x3c6ef372, 0xa54ff53a, 0x510e527f, 0x9b05688c, 0x1f83d9ab, 0x5be0cd19⟩

/-- Four bytes as a word. -/
def wordOf (p q r s : UInt8) : Wd := BitVec.ofNat 32 (p.toNat * 16777216 + q.toNat * 65536 + r.toNat * 256 + s.toNat)
def wordB (b : List UInt8) (i : Nat) : Wd := wordOf (b.getD i 0) (b.getD (i + 1) 0) (b.getD (i + 2) 0) (b.getD (i + 3) 0)
/-- The words of the rounds, so far as k of them. -/
def spreadK (b : List UInt8) : Nat → List Wd
  | 0 => []
  | k + 1 => spreadK b k ++ [if k < 16 then wordB b (4 * k) else (spreadK b k).getD (k - 16) 0 + lsig0 ((spreadK b k).getD (k - 15) 0) + (spreadK b k).getD (k - 7) 0 + lsig1 ((spreadK b k).getD (k - 2) 0)]
theorem spreadK_len (b : List UInt8) (k : Nat) : (spreadK b k).length = k := by
  induction k with
  | zero => rfl
  | succ k ih => simp [spreadK, ih]

/-- One round. -/
def round1 (s : H8) (k w : Wd) : H8 :=
  let one := s.h + usig1 s.e + chW s.e s.f s.g + k + w
  let two := usig0 s.a + mjW s.a s.b s.c
  ⟨one + two, s.a, s.b, s.c, s.d + one, s.e, s.f, s.g⟩
def roundsK (ws : List Wd) (s : H8) : Nat → H8
  | 0 => s
  | k + 1 => round1 (roundsK ws s k) (kTab.getD k 0) (ws.getD k 0)
def H8.add (s t : H8) : H8 := ⟨s.a + t.a, s.b + t.b, s.c + t.c, s.d + t.d, s.e + t.e, s.f + t.f, s.g + t.g, s.h + t.h⟩
/-- A block into the words. -/
def mixW (s : H8) (b : List UInt8) : H8 := s.add (roundsK (spreadK b 64) s 64)
/-- n blocks. -/
def shaN (s : H8) (l : List UInt8) : Nat → H8
  | 0 => s
  | n + 1 => shaN (mixW s (l.take 64)) (l.drop 64) n
/-- All whole blocks of l, and what is left. -/
def shaA (s : H8) (l : List UInt8) : H8 := shaN s l (l.length / 64)
def restA (l : List UInt8) : List UInt8 := l.drop (64 * (l.length / 64))
theorem shaA_step (s : H8) (l : List UInt8) (h : 64 ≤ l.length) : shaA s l = shaA (mixW s (l.take 64)) (l.drop 64) := by
  unfold shaA
  have e : l.length / 64 = (l.drop 64).length / 64 + 1 := by simp only [List.length_drop]; omega
  rw [e]
  rfl
theorem restA_step (l : List UInt8) (h : 64 ≤ l.length) : restA l = restA (l.drop 64) := by
  unfold restA
  rw [List.drop_drop]
  congr 1
  simp only [List.length_drop]
  omega
theorem shaA_end (s : H8) (l : List UInt8) (h : l.length < 64) : shaA s l = s := by
  unfold shaA
  rw [Nat.div_eq_of_lt h]
  rfl
theorem restA_end (l : List UInt8) (h : l.length < 64) : restA l = l := by
  unfold restA
  rw [Nat.div_eq_of_lt h]
  rfl
theorem restA_lt (l : List UInt8) : (restA l).length < 64 := by
  unfold restA
  simp only [List.length_drop]
  omega
theorem restA_len (l : List UInt8) : (restA l).length = l.length % 64 := by
  unfold restA
  simp only [List.length_drop]
  omega
/-- Piece by piece. -/
theorem shaA_append (s : H8) (a b : List UInt8) : shaA s (a ++ b) = shaA (shaA s a) (restA a ++ b) ∧ restA (a ++ b) = restA (restA a ++ b) := by
  obtain ⟨n, hn⟩ : ∃ n, a.length / 64 = n := ⟨_, rfl⟩
  induction n generalizing s a with
  | zero =>
    have h : a.length < 64 := by omega
    rw [shaA_end s a h, restA_end a h]
    exact ⟨rfl, rfl⟩
  | succ n ih =>
    have h : 64 ≤ a.length := by omega
    rw [shaA_step s a h, restA_step a h, shaA_step s (a ++ b) (by simp; omega), restA_step (a ++ b) (by simp; omega)]
    have e1 : (a ++ b).take 64 = a.take 64 := List.take_append_of_le_length h
    have e2 : (a ++ b).drop 64 = a.drop 64 ++ b := List.drop_append_of_le_length h
    rw [e1, e2]
    exact ih (mixW s (a.take 64)) (a.drop 64) (by simp only [List.length_drop]; omega)
/-- What stands behind all bytes. -/
def be8 (n : Nat) : List UInt8 := [UInt8.ofNat (n >>> 56), UInt8.ofNat (n >>> 48), UInt8.ofNat (n >>> 40), UInt8.ofNat (n >>> 32), UInt8.ofNat (n >>> 24), UInt8.ofNat (n >>> 16), UInt8.ofNat (n >>> 8), UInt8.ofNat n]
def padZ (n : Nat) : Nat := (119 - n % 64) % 64
def padL (n : Nat) : List UInt8 := 128 :: (List.replicate (padZ n) 0 ++ be8 (n * 8))
/-- The words' bytes. -/
def be4 (x : Wd) : List UInt8 := [UInt8.ofNat (x.toNat >>> 24), UInt8.ofNat (x.toNat >>> 16), UInt8.ofNat (x.toNat >>> 8), UInt8.ofNat x.toNat]
def outW (s : H8) : List UInt8 := be4 s.a ++ (be4 s.b ++ (be4 s.c ++ (be4 s.d ++ (be4 s.e ++ (be4 s.f ++ (be4 s.g ++ be4 s.h))))))
/-- The digest. -/
def sha (l : List UInt8) : List UInt8 := outW (shaA h0 (l ++ padL l.length))
theorem sha_len (l : List UInt8) : (sha l).length = 32 := rfl
end Go.Proofs.Ytnbemfceoianiaa

/- Words of 32 bits as Go's values: what the operations on them give. Over any program. -/
namespace Go.Proofs.Ytnbemfceoianiaa
set_option linter.unusedVariables false

/-- A word as a value. -/
def W (x : Wd) : Value := .int .u32 (x.toNat : Int)
theorem W_cells (x : Wd) : (W x).cells = #[W x] := rfl
theorem W_one (x : Wd) : (W x).oneCell' = true := rfl
theorem W_eq (x : Wd) : W x = .int .u32 (x.toNat : Int) := rfl
theorem wrap_u32 (x : Int) : IntKind.u32.wrap x = x % 4294967296 := by simp [IntKind.wrap, IntKind.signed, IntKind.bits]
theorem wrap_u8 (x : Int) : IntKind.u8.wrap x = x % 256 := by simp [IntKind.wrap, IntKind.signed, IntKind.bits]
section
variable {P : Program} (t : TypeId) (x y : Wd) (w : World)
theorem W_add : (binOp .add t (W x) (W y)).run P w = .ok (W (x + y)) w := by
  have h : IntKind.u32.wrap ((x.toNat : Int) + y.toNat) = ((x + y).toNat : Int) := by
    rw [wrap_u32, BitVec.toNat_add]; omega
  simp only [binOp, W, Op.intArith, ne_eq, not_true, if_false]
  simp only [h, Sem.run_pure]
theorem bv (x : Wd) : BitVec.ofInt IntKind.u32.bits (x.toNat : Int) = x := by
  show BitVec.ofInt 32 (x.toNat : Int) = x
  rw [BitVec.ofInt_natCast, BitVec.ofNat_toNat]
  simp
theorem wr (x : Wd) : IntKind.u32.wrap (x.toNat : Int) = (x.toNat : Int) := by
  have := x.isLt
  rw [wrap_u32]; omega
theorem W_xor : (binOp .xor t (W x) (W y)).run P w = .ok (W (x ^^^ y)) w := by
  simp only [binOp, W, Op.intBits, ne_eq, not_true, if_false, bv, Sem.run_pure]
  exact congrArg (fun z => Result.ok (Value.int .u32 z) w) (wr (x ^^^ y))
theorem W_and : (binOp .and t (W x) (W y)).run P w = .ok (W (x &&& y)) w := by
  simp only [binOp, W, Op.intBits, ne_eq, not_true, if_false, bv, Sem.run_pure]
  exact congrArg (fun z => Result.ok (Value.int .u32 z) w) (wr (x &&& y))
theorem W_or : (binOp .or t (W x) (W y)).run P w = .ok (W (x ||| y)) w := by
  simp only [binOp, W, Op.intBits, ne_eq, not_true, if_false, bv, Sem.run_pure]
  exact congrArg (fun z => Result.ok (Value.int .u32 z) w) (wr (x ||| y))
theorem W_shr (k : IntKind) (n : Nat) (hn : n ≤ 32) : (binOp .shr t (W x) (.int k n)).run P w = .ok (W (x >>> n)) w := by
  have h1 : ¬ (n : Int) < 0 := by omega
  have h2 : min (n : Int).toNat IntKind.u32.bits = n := by
    show min (n : Int).toNat 32 = n
    omega
  simp only [binOp, W, Op.shift, if_neg h1, h2, Sem.run_pure]
  congr 2
  rw [BitVec.toNat_ushiftRight, Nat.shiftRight_eq_div_pow, Int.fdiv_eq_ediv_of_nonneg _ (by exact Int.pow_nonneg (by decide))]
  simp
theorem W_shl (k : IntKind) (n : Nat) (hn : n ≤ 32) : (binOp .shl t (W x) (.int k n)).run P w = .ok (W (x <<< n)) w := by
  have h1 : ¬ (n : Int) < 0 := by omega
  have h2 : min (n : Int).toNat IntKind.u32.bits = n := by
    show min (n : Int).toNat 32 = n
    omega
  simp only [binOp, W, Op.shift, if_neg h1, h2, Sem.run_pure]
  congr 2
  rw [BitVec.toNat_shiftLeft, Nat.shiftLeft_eq, wrap_u32]
  simp
theorem W_not : (Op.unary .xor (W x)).run P w = .ok (W (~~~x)) w := by
  have e : (BitVec.ofInt 32 4294967295 ^^^ x : Wd) = ~~~x := by
    rw [show BitVec.ofInt 32 4294967295 = BitVec.allOnes 32 from by decide, BitVec.allOnes_xor]
  have e2 : Op.unary .xor (W x) = pure (.int .u32 (IntKind.u32.wrap ((BitVec.ofInt 32 4294967295 ^^^ BitVec.ofInt 32 (x.toNat : Int) : Wd).toNat : Int))) := rfl
  rw [e2, show BitVec.ofInt 32 (x.toNat : Int) = x from bv x, e, wr]
  rfl
theorem W_store (x : Wd) (p : Addr) (w : World) (hc : (w.cell? p).isSome = true) (hf : w.frozen? p = false) : (store p (W x)).run P w = .ok () (w.setCell p (W x)) := by
  obtain ⟨old, ho⟩ := Option.isSome_iff_exists.1 hc
  simp only [run_store P w _ (W x) _ rfl, ho]
  simp [hf]
end
theorem and31 (n : Nat) (r s : Nat) (h : r + s = 32) (hr : 0 < r) (hs : 0 < s) (P : Program) (t : TypeId) (w : World) : (binOp .and t (.int .u64 (IntKind.u64.wrap (-(r : Int)))) (.int .u64 31)).run P w = .ok (.int .u64 (s : Int)) w := by
  have e : (BitVec.ofInt 64 (IntKind.u64.wrap (-(r : Int))) &&& BitVec.ofInt 64 31).toNat = s := by
    rw [BitVec.toNat_and, BitVec.toNat_ofInt, show (BitVec.ofInt 64 31).toNat = 2 ^ 5 - 1 from by decide, Nat.and_two_pow_sub_one_eq_mod]
    simp only [IntKind.wrap, IntKind.signed, IntKind.bits]
    simp
    omega
  have e2 : binOp .and t (.int .u64 (IntKind.u64.wrap (-(r : Int)))) (.int .u64 31) = pure (.int .u64 (IntKind.u64.wrap ((BitVec.ofInt 64 (IntKind.u64.wrap (-(r : Int))) &&& BitVec.ofInt 64 31).toNat : Int))) := rfl
  rw [e2, e]
  have : IntKind.u64.wrap (s : Int) = s := by
    simp only [IntKind.wrap, IntKind.signed, IntKind.bits]
    simp
    omega
  rw [this]
  rfl
theorem rotl (x : Wd) (r s : Nat) (h : r + s = 32) (hr : 0 < r) (hs : 0 < s) (w : World) :
    Calls Try.prog 91 #[W x, .int .i64 (-(r : Int))] w fun e w' => e = .returned (W (rr x r)) ∧ w = w' := by
  obtain ⟨C, hC, hA⟩ : ∃ C : Value, (∀ w, (convert 3 126 (.int .i64 (-(r : Int)))).run Try.prog w = .ok C w) ∧ ∀ w, (binOp .and 126 C (.int .u64 31)).run Try.prog w = .ok (.int .u64 (s : Int)) w :=
    ⟨.int .u64 (IntKind.u64.wrap (-(r : Int))), fun w => by go_simp, fun w => and31 0 r s h hr hs _ _ w⟩
  have hB : ∀ w, (binOp .shl 41 (W x) (.int .u64 (s : Int))).run Try.prog w = .ok (W (x <<< s)) w := fun w => W_shl _ _ w _ _ (by omega)
  have hE : ∀ w, (binOp .shr 41 (W x) (.int .u64 (32 - (s : Int)))).run Try.prog w = .ok (W (x >>> r)) w := fun w => by
    rw [show (32 - (s : Int)) = (r : Int) by omega]
    exact W_shr _ _ w _ _ (by omega)
  have hF : ∀ w, (binOp .or 41 (W (x <<< s)) (W (x >>> r))).run Try.prog w = .ok (W (rr x r)) w := fun w => by
    rw [W_or, BitVec.or_comm, show s = 32 - r by omega]; rfl
  have h1 : (s : Int) ≤ 32 := by omega
  clear h hr hs
  go_enter Try.func91, Try.ntmps91
  go_wp2
  go_ret
  exact ⟨rfl, rfl⟩
end Go.Proofs.Ytnbemfceoianiaa

/- Contracts of package digest: the closure that turns a word, word, table, begun. -/
namespace Go.Proofs.Ytnbemfceoianiaa
set_option linter.unusedVariables false
open Go.RowKit

theorem turned_any (x : Wd) (a b c : Nat) (ha : 0 < a ∧ a < 32) (hb : 0 < b ∧ b < 32) (hc : 0 < c ∧ c < 32) (w : World) :
    Calls Try.prog 90 #[W x, .int .i64 (a : Int), .int .i64 (b : Int), .int .i64 (c : Int)] w fun e w' => e = .returned (W (rr x a ^^^ rr x b ^^^ rr x c)) ∧ w = w' := by
  obtain ⟨ha0, ha1⟩ := ha
  obtain ⟨hb0, hb1⟩ := hb
  obtain ⟨hc0, hc1⟩ := hc
  have r1 := fun w => rotl x a (32 - a) (by omega) ha0 (by omega) w
  have r2 := fun w => rotl x b (32 - b) (by omega) hb0 (by omega) w
  have r3 := fun w => rotl x c (32 - c) (by omega) hc0 (by omega) w
  have x1 := fun (a b : Wd) (w : World) => W_xor (P := Try.prog) 41 a b w
  have na : (a : Int) ≤ 32 := by omega
  have nb : (b : Int) ≤ 32 := by omega
  have nc : (c : Int) ≤ 32 := by omega
  clear ha0 ha1 hb0 hb1 hc0 hc1
  go_enter Try.func90, Try.ntmps90
  go_wp2_with (first | ((with_reducible refine (r1 _).mono ?_); rintro e w' ⟨rfl, rfl⟩) | ((with_reducible refine (r2 _).mono ?_); rintro e w' ⟨rfl, rfl⟩) | ((with_reducible refine (r3 _).mono ?_); rintro e w' ⟨rfl, rfl⟩))
  go_ret
  exact ⟨rfl, rfl⟩

set_option maxRecDepth 100000 in
theorem info_arr64 : (Try.prog.info? 42).map (·.size) = some (kTab.map W).toArray.size := by kernel_rfl
set_option maxRecDepth 100000 in
theorem kTab_one : (kTab.map W).toArray.all (·.oneCell') = true := by kernel_rfl
theorem h0_one : (h0.l.map W).toArray.all (·.oneCell') = true := by kernel_rfl
theorem info_h8 : (Try.prog.info? 115).map (·.size) = some (h0.l.map W).toArray.size := by kernel_rfl
set_option maxRecDepth 100000 in
theorem table_any (w : World) : Calls Try.prog 89 #[] w fun e w' => e = .returned (.agg (kTab.map W).toArray) ∧ Below w.heap.size w w' := by
  obtain ⟨K, hK⟩ : ∃ K : Array Value, K = (kTab.map W).toArray := ⟨_, rfl⟩
  have HI2 := Lib.hid info_arr64
  have H1 := Lib.hid kTab_one
  rw [← hK] at HI2 H1
  have HK := Lib.hid hK
  have HS := Lib.hid (show K.size = 64 by rw [hK]; rfl)
  rw [← hK]
  clear hK
  go_enter Try.func89, Try.ntmps89
  go_wp2_with (first | refine wpList_buildTo rfl 42 _ rfl (some 1) rfl K (by rw [HK.out]; as_aux_lemma => kernel_rfl) ?_ | refine wpList_store_row rfl _ _ _ rfl w.heap.size K rfl rfl 42 _ (heap_alloc_last _ _) HI2.out (by rw [HS.out]; rfl) H1.out ?_)
  refine bodyPost_ret (results_cell_row rfl _ _ w.heap.size 42 _ (0, 0) _ rfl (setRow_heap _ _ _ _ _ _ (heap_alloc_last _ _)) Try.underlying42 rfl HI2.out) rfl ⟨rfl, ?_⟩
  rw [World.setRow_alloc_new]
  exact (Below.refl _ _).alloc (Nat.le_refl _) _
set_option maxRecDepth 100000 in
theorem begun_any (w : World) : Calls Try.prog 78 #[] w fun e w' => e = .returned (.agg (h0.l.map W).toArray) ∧ Below w.heap.size w w' := by
  obtain ⟨K, hK⟩ : ∃ K : Array Value, K = (h0.l.map W).toArray := ⟨_, rfl⟩
  have HI2 := Lib.hid info_h8
  have H1 := Lib.hid h0_one
  rw [← hK] at HI2 H1
  have HK := Lib.hid hK
  have HS := Lib.hid (show K.size = 8 by rw [hK]; rfl)
  rw [← hK]
  clear hK
  go_enter Try.func78, Try.ntmps78
  go_wp2_with (first | refine wpList_buildTo rfl 43 _ rfl (some 1) rfl K (by rw [HK.out]; as_aux_lemma => kernel_rfl) ?_ | refine wpList_buildTo rfl 115 _ rfl (some 2) rfl K (by rw [HK.out]; as_aux_lemma => kernel_rfl) ?_ | refine wpList_store_row rfl _ _ _ rfl w.heap.size K rfl rfl 115 _ (heap_alloc_last _ _) HI2.out (by rw [HS.out]; rfl) H1.out ?_)
  refine bodyPost_ret (results_cell_row rfl _ _ w.heap.size 115 _ (0, 0) _ rfl (setRow_heap _ _ _ _ _ _ (heap_alloc_last _ _)) Try.underlying115 rfl HI2.out) rfl ⟨rfl, ?_⟩
  rw [World.setRow_alloc_new]
  exact (Below.refl _ _).alloc (Nat.le_refl _) _
set_option maxRecDepth 100000 in
theorem wordOf_eq (p q r s : UInt8) : ((BitVec.ofNat 32 p.toNat <<< 24 ||| BitVec.ofNat 32 q.toNat <<< 16) ||| BitVec.ofNat 32 r.toNat <<< 8) ||| BitVec.ofNat 32 s.toNat = wordOf p q r s := by
  have hp := p.toNat_lt
  have hq := q.toNat_lt
  have hr := r.toNat_lt
  have hs := s.toNat_lt
  apply BitVec.eq_of_toNat_eq
  unfold wordOf
  simp only [BitVec.toNat_or, BitVec.toNat_shiftLeft, BitVec.toNat_ofNat]
  rw [Nat.mod_eq_of_lt (a := p.toNat) (by omega), Nat.mod_eq_of_lt (a := q.toNat) (by omega), Nat.mod_eq_of_lt (a := r.toNat) (by omega), Nat.mod_eq_of_lt (a := s.toNat) (by omega)]
  simp only [Nat.shiftLeft_eq]
  rw [Nat.mod_eq_of_lt (a := p.toNat * 2 ^ 24) (by omega), Nat.mod_eq_of_lt (a := q.toNat * 2 ^ 16) (by omega), Nat.mod_eq_of_lt (a := r.toNat * 2 ^ 8) (by omega)]
  have e1 : p.toNat * 2 ^ 24 ||| q.toNat * 2 ^ 16 = (p.toNat * 256 + q.toNat) * 2 ^ 16 := by
    have := Nat.shiftLeft_add_eq_or_of_lt (i := 24) (b := q.toNat * 2 ^ 16) (by omega) p.toNat
    rw [Nat.shiftLeft_eq] at this
    rw [← this]
    omega
  have e2 : (p.toNat * 256 + q.toNat) * 2 ^ 16 ||| r.toNat * 2 ^ 8 = ((p.toNat * 256 + q.toNat) * 256 + r.toNat) * 2 ^ 8 := by
    have := Nat.shiftLeft_add_eq_or_of_lt (i := 16) (b := r.toNat * 2 ^ 8) (by omega) (p.toNat * 256 + q.toNat)
    rw [Nat.shiftLeft_eq] at this
    rw [← this]
    omega
  have e3 : ((p.toNat * 256 + q.toNat) * 256 + r.toNat) * 2 ^ 8 ||| s.toNat = ((p.toNat * 256 + q.toNat) * 256 + r.toNat) * 2 ^ 8 + s.toNat := by
    have := Nat.shiftLeft_add_eq_or_of_lt (i := 8) (b := s.toNat) (by omega) ((p.toNat * 256 + q.toNat) * 256 + r.toNat)
    rw [Nat.shiftLeft_eq] at this
    rw [← this]
  rw [e1, e2, e3]
  omega

set_option maxHeartbeats 800000 in
theorem word_any (g o n c : Nat) (p q r s : UInt8) (w : World) (hn : 4 ≤ n)
    (c0 : w.cell? ⟨g, o, none⟩ = some (.int .u8 (p.toNat : Int))) (c1 : w.cell? ⟨g, o + 1, none⟩ = some (.int .u8 (q.toNat : Int)))
    (c2 : w.cell? ⟨g, o + 2, none⟩ = some (.int .u8 (r.toNat : Int))) (c3 : w.cell? ⟨g, o + 3, none⟩ = some (.int .u8 (s.toNat : Int))) :
    Calls Try.prog 92 #[.slice (some ⟨g, o, none⟩) n c] w fun e w' => e = .returned (W (wordOf p q r s)) ∧ ∃ k, w' = w.drewN k := by
  have hv : ∀ (b : UInt8) (w : World), (convert 5 41 (.int .u8 (b.toNat : Int))).run Try.prog w = .ok (W (BitVec.ofNat 32 b.toNat)) w := by
    intro b w
    have hb := b.toNat_lt
    have e : IntKind.u32.wrap (b.toNat : Int) = (BitVec.ofNat 32 b.toNat).toNat := by
      rw [wrap_u32, BitVec.toNat_ofNat]
      omega
    have : (convert 5 41 (.int .u8 (b.toNat : Int))).run Try.prog w = .ok (.int .u32 (IntKind.u32.wrap (b.toNat : Int))) w := by go_simp
    rw [this, e]
    rfl
  have s24 : ∀ (x : Wd) (w : World), (binOp .shl 41 (W x) (.int .u64 24)).run Try.prog w = .ok (W (x <<< 24)) w := fun x w => W_shl 41 x w .u64 24 (by decide)
  have s16 : ∀ (x : Wd) (w : World), (binOp .shl 41 (W x) (.int .u64 16)).run Try.prog w = .ok (W (x <<< 16)) w := fun x w => W_shl 41 x w .u64 16 (by decide)
  have s8 : ∀ (x : Wd) (w : World), (binOp .shl 41 (W x) (.int .u64 8)).run Try.prog w = .ok (W (x <<< 8)) w := fun x w => W_shl 41 x w .u64 8 (by decide)
  have or1 := fun (a b : Wd) (w : World) => W_or (P := Try.prog) 41 a b w
  have HW := Lib.hid (wordOf_eq p q r s)
  have i0 : 0 < n := by omega
  have i1 : (1 : Int) < n := by omega
  have i2 : (2 : Int) < n := by omega
  have i3 : (3 : Int) < n := by omega
  go_enter Try.func92, Try.ntmps92
  go_wp2
  go_quiet (fail)
  go_wp2
  go_ret
  exact ⟨by rw [← HW.out]; rfl, _, rfl⟩
end Go.Proofs.Ytnbemfceoianiaa

/- Contracts of package digest: spread. -/
namespace Go.Proofs.Ytnbemfceoianiaa
set_option linter.unusedVariables false
open Go.RowKit

def Ws (l : List Wd) : Array Value := (l.map W).toArray
theorem Ws_get {l : List Wd} {j : Nat} {x : Wd} (h : l[j]? = some x) : (Ws l)[j]? = some (W x) := by simp [Ws, h]
theorem Ws_getD {l : List Wd} {j : Nat} (h : j < l.length) : (Ws l)[j]? = some (W (l.getD j 0)) := by
  rw [Ws_get (List.getElem?_eq_getElem h), List.getD_eq_getElem?_getD, List.getElem?_eq_getElem h]; rfl
theorem Ws_set (l : List Wd) (j : Nat) (x : Wd) : (Ws l).setIfInBounds j (W x) = Ws (l.set j x) := by simp [Ws, List.map_set]
theorem Ws_one (l : List Wd) : (Ws l).all (·.oneCell') = true := by
  rw [Array.all_eq_true_iff_forall_mem]
  intro v hv
  simp only [Ws, List.mem_toArray, List.mem_map] at hv
  obtain ⟨x, _, rfl⟩ := hv
  rfl
theorem Ws_size (l : List Wd) : (Ws l).size = l.length := by simp [Ws]
/-- The words so far, in their array. -/
def spL (l : List UInt8) (k : Nat) : List Wd := spreadK l k ++ List.replicate (64 - k) 0
theorem spL_len (l : List UInt8) {k : Nat} (h : k ≤ 64) : (spL l k).length = 64 := by simp [spL, spreadK_len]; omega
theorem spL_get (l : List UInt8) {j k : Nat} (h : j < k) : (spL l k)[j]? = some ((spreadK l k).getD j 0) := by
  unfold spL
  rw [List.getElem?_append_left (by rw [spreadK_len]; exact h), List.getElem?_eq_getElem (by rw [spreadK_len]; exact h), List.getD_eq_getElem?_getD, List.getElem?_eq_getElem (by rw [spreadK_len]; exact h)]
  rfl
def spN (l : List UInt8) (k : Nat) : Wd := if k < 16 then wordB l (4 * k) else (spreadK l k).getD (k - 16) 0 + lsig0 ((spreadK l k).getD (k - 15) 0) + (spreadK l k).getD (k - 7) 0 + lsig1 ((spreadK l k).getD (k - 2) 0)
theorem spL_set (l : List UInt8) {k : Nat} (h : k < 64) : (spL l k).set k (spN l k) = spL l (k + 1) := by
  unfold spL
  rw [List.set_append_right _ _ (by rw [spreadK_len]; omega), spreadK_len, Nat.sub_self, show 64 - k = (64 - (k + 1)) + 1 by omega, List.replicate_succ, List.set_cons_zero]
  show _ = (spreadK l k ++ [spN l k]) ++ _
  rw [List.append_assoc]
  rfl
theorem spL_0 (l : List UInt8) : spL l 0 = List.replicate 64 0 := rfl
theorem spL_64 (l : List UInt8) : spL l 64 = spreadK l 64 := by simp [spL]

theorem by8_getD {l : List UInt8} {k : Nat} (h : k < l.length) : (by8 l)[k]? = some (.int .u8 ((l.getD k 0).toNat : Int)) := by
  rw [by8_get (List.getElem?_eq_getElem h), List.getD_eq_getElem?_getD, List.getElem?_eq_getElem h]; rfl
theorem zero64 : Ws (List.replicate 64 0) = #[Value.int IntKind.u32 0, Value.int IntKind.u32 0, Value.int IntKind.u32 0, Value.int IntKind.u32 0, Value.int IntKind.u32 0, Value.int IntKind.u32 0, Value.int IntKind.u32 0, Value.int IntKind.u32 0, Value.int IntKind.u32 0, Value.int IntKind.u32 0, Value.int IntKind.u32 0, Value.int IntKind.u32 0, Value.int IntKind.u32 0, Value.int IntKind.u32 0, Value.int IntKind.u32 0, Value.int IntKind.u32 0, Value.int IntKind.u32 0, Value.int IntKind.u32 0, Value.int IntKind.u32 0, Value.int IntKind.u32 0, Value.int IntKind.u32 0, Value.int IntKind.u32 0, Value.int IntKind.u32 0, Value.int IntKind.u32 0, Value.int IntKind.u32 0, Value.int IntKind.u32 0, Value.int IntKind.u32 0, Value.int IntKind.u32 0, Value.int IntKind.u32 0, Value.int IntKind.u32 0, Value.int IntKind.u32 0, Value.int IntKind.u32 0, Value.int IntKind.u32 0, Value.int IntKind.u32 0, Value.int IntKind.u32 0, Value.int IntKind.u32 0, Value.int IntKind.u32 0, Value.int IntKind.u32 0, Value.int IntKind.u32 0, Value.int IntKind.u32 0, Value.int IntKind.u32 0, Value.int IntKind.u32 0, Value.int IntKind.u32 0, Value.int IntKind.u32 0, Value.int IntKind.u32 0, Value.int IntKind.u32 0, Value.int IntKind.u32 0, Value.int IntKind.u32 0, Value.int IntKind.u32 0, Value.int IntKind.u32 0, Value.int IntKind.u32 0, Value.int IntKind.u32 0, Value.int IntKind.u32 0, Value.int IntKind.u32 0, Value.int IntKind.u32 0, Value.int IntKind.u32 0, Value.int IntKind.u32 0, Value.int IntKind.u32 0, Value.int IntKind.u32 0, Value.int IntKind.u32 0, Value.int IntKind.u32 0, Value.int IntKind.u32 0, Value.int IntKind.u32 0, Value.int IntKind.u32 0] := rfl
structure SpR (w wr : World) (l : List UInt8) (k : Nat) : Prop where
  m : Mst w wr [(w.heap.size + 1, 42, Ws (spL l k)), (w.heap.size, 42, Ws (spL [] 0))] []

set_option maxRecDepth 100000 in
set_option maxHeartbeats 1000000 in
theorem spread_any (w : World) (A : Option Addr) (c : Nat) (l : List UInt8) (hl : l.length = 64) (hr : RB w w.heap.size A l) (hc : 64 ≤ c) (hcm : c ≤ 9223372036854775807) :
    Calls Try.prog 88 #[.slice A 64 c] w fun e w' => e = .returned (.agg (Ws (spreadK l 64))) ∧ Below w.heap.size w w' := by
  obtain ⟨gb, ob, rfl, hgb, hcell⟩ := hr.2 (by omega)
  have HC := Lib.hid hcell
  have HL := Lib.hid hl
  have m0 := ((Mst.start w).new 42 (Ws (spL [] 0))).new 42 (Ws (spL l 0))
  rw [show (w.alloc (.cells (Ws (spL [] 0)) 42)).heap.size = w.heap.size + 1 by simp] at m0
  have m1 : ∀ Z, Ws (List.replicate 64 0) = Z → Mst w ((w.alloc (.cells Z 42)).alloc (.cells Z 42)) [(w.heap.size + 1, 42, Ws (spL l 0)), (w.heap.size, 42, Ws (spL [] 0))] [] := by
    rintro _ rfl
    exact m0
  have M0 := Lib.hid (m1 _ zero64)
  clear m0 m1 hr hcell hl
  go_enter Try.func88, Try.ntmps88
  go_wp2
  go_loopg [9] 64 (fun g s9 wr => ∃ k : Nat, k + g = 64 ∧ s9 = .int .i64 k ∧ SpR w wr l k)
  case atStart => exact ⟨0, by omega, rfl, ⟨M0.out⟩⟩
  case round =>
    obtain ⟨k, hk, rfl, ⟨hm⟩⟩ := hrel
    by_cases hlt : k < 64
    · by_cases h16 : k < 16
      · have hcl := HC.out
        have hlen := HL.out
        have f3 := (hm.blk []).fr k
        have hx : (Ws (spL l k))[k]? = some (W ((spL l k).getD k 0)) := Ws_getD (by rw [spL_len l (by omega)]; exact hlt)
        have c3 := ((hm.blk []).cell k).trans hx
        have gq : ∀ j, j < 4 → wr.cell? ⟨gb, ob + 4 * k + j, none⟩ = some (.int .u8 ((l.getD (4 * k + j) 0).toNat : Int)) := fun j hj => by
          rw [Nat.add_assoc]
          exact hm.old hgb (hcl _ _ (by8_getD (by omega)))
        have hw := word_any gb (ob + 4 * k) (64 - 4 * k) (c - 4 * k) _ _ _ _ wr (by omega) (gq 0 (by omega)) (gq 1 (by omega)) (gq 2 (by omega)) (gq 3 (by omega))
        obtain ⟨X, hX, hXs⟩ : ∃ X, wordOf (l.getD (4 * k + 0) 0) (l.getD (4 * k + 1) 0) (l.getD (4 * k + 2) 0) (l.getD (4 * k + 3) 0) = X ∧ (spL l k).set k X = spL l (k + 1) := by
          refine ⟨_, rfl, ?_⟩
          have := spL_set l hlt
          unfold spN at this
          rw [if_pos h16] at this
          exact this
        rw [hX] at hw
        have HW := Lib.hid hw
        have HX := Lib.hid hXs
        have HM := Lib.hid hm
        have ST := W_store (P := Try.prog)
        have SC := fun x => (Value.cells.eq_def (W x)).symm.trans (W_cells x)
        clear gq hw hX hXs
        clear hm hx hcl hlen
        go_wp2_with (refine HW.out.mono ?_; rintro e w' ⟨rfl, kk, rfl⟩)
        go_roundg (64 - (k + 1))
        case measure => exact meas hk hlt
        case rel => exact ⟨k + 1, meas2 hlt, by go_num, ⟨by
          have := (HM.out.drewN kk).put [] k (W X)
          rw [Ws_set, HX.out] at this
          exact this⟩⟩
      · have f3 := (hm.blk []).fr k
        have hx : (Ws (spL l k))[k]? = some (W ((spL l k).getD k 0)) := Ws_getD (by rw [spL_len l (by omega)]; exact hlt)
        have c3 := ((hm.blk []).cell k).trans hx
        have gx : ∀ d, 0 < d → d ≤ k → wr.cell? ⟨w.heap.size + 1, k - d, none⟩ = some (W ((spreadK l k).getD (k - d) 0)) := fun d h0 h1 => ((hm.blk []).cell (k - d)).trans (Ws_get (spL_get l (by omega)))
        have g15 := gx 15 (by omega) (by omega)
        have g2 := gx 2 (by omega) (by omega)
        have g16 := gx 16 (by omega) (by omega)
        have g7 := gx 7 (by omega) (by omega)
        have hXs := spL_set l hlt
        unfold spN at hXs
        rw [if_neg h16] at hXs
        obtain ⟨x15, e15⟩ : ∃ x, (spreadK l k).getD (k - 15) 0 = x := ⟨_, rfl⟩
        obtain ⟨x2, e2⟩ : ∃ x, (spreadK l k).getD (k - 2) 0 = x := ⟨_, rfl⟩
        obtain ⟨x16, e16⟩ : ∃ x, (spreadK l k).getD (k - 16) 0 = x := ⟨_, rfl⟩
        obtain ⟨x7, e7⟩ : ∃ x, (spreadK l k).getD (k - 7) 0 = x := ⟨_, rfl⟩
        rw [e15] at g15 hXs
        rw [e2] at g2 hXs
        rw [e16] at g16 hXs
        rw [e7] at g7 hXs
        have n15 : ((k : Int) - 15).toNat = k - 15 := by omega
        have n2 : ((k : Int) - 2).toNat = k - 2 := by omega
        have n16 : ((k : Int) - 16).toNat = k - 16 := by omega
        have n7 : ((k : Int) - 7).toNat = k - 7 := by omega
        have p15 : 0 ≤ (k : Int) - 15 := by omega
        have p2 : 0 ≤ (k : Int) - 2 := by omega
        have p16 : 0 ≤ (k : Int) - 16 := by omega
        have p7 : 0 ≤ (k : Int) - 7 := by omega
        have l15 : (k : Int) - 15 < 64 := by omega
        have l2 : (k : Int) - 2 < 64 := by omega
        have l16 : (k : Int) - 16 < 64 := by omega
        have l7 : (k : Int) - 7 < 64 := by omega
        have v15 : IntKind.i64.wrap ((k : Int) - 15) = (k : Int) - 15 := IntWalk.i64_in _ (by omega)
        have v2 : IntKind.i64.wrap ((k : Int) - 2) = (k : Int) - 2 := IntWalk.i64_in _ (by omega)
        have v16 : IntKind.i64.wrap ((k : Int) - 16) = (k : Int) - 16 := IntWalk.i64_in _ (by omega)
        have v7 : IntKind.i64.wrap ((k : Int) - 7) = (k : Int) - 7 := IntWalk.i64_in _ (by omega)
        have HX := Lib.hid hXs
        have HM := Lib.hid hm
        have ST := W_store (P := Try.prog)
        have SC := fun x => (Value.cells.eq_def (W x)).symm.trans (W_cells x)
        have AX := fun (a b : Wd) (w : World) => W_xor (P := Try.prog) 41 a b w
        have AA := fun (a b : Wd) (w : World) => W_add (P := Try.prog) 41 a b w
        have s3 : ∀ (x : Wd) (w : World), (binOp .shr 41 (W x) (.int .u64 3)).run Try.prog w = .ok (W (x >>> 3)) w := fun x w => W_shr 41 x w .u64 3 (by decide)
        have s10 : ∀ (x : Wd) (w : World), (binOp .shr 41 (W x) (.int .u64 10)).run Try.prog w = .ok (W (x >>> 10)) w := fun x w => W_shr 41 x w .u64 10 (by decide)
        have r7 : ∀ (x : Wd) (w : World), Calls Try.prog 91 #[W x, .int .i64 (-7)] w fun e w' => e = .returned (W (rr x 7)) ∧ w = w' := fun x w => rotl x 7 25 (by decide) (by decide) (by decide) w
        have r18 : ∀ (x : Wd) (w : World), Calls Try.prog 91 #[W x, .int .i64 (-18)] w fun e w' => e = .returned (W (rr x 18)) ∧ w = w' := fun x w => rotl x 18 14 (by decide) (by decide) (by decide) w
        have r17 : ∀ (x : Wd) (w : World), Calls Try.prog 91 #[W x, .int .i64 (-17)] w fun e w' => e = .returned (W (rr x 17)) ∧ w = w' := fun x w => rotl x 17 15 (by decide) (by decide) (by decide) w
        have r19 : ∀ (x : Wd) (w : World), Calls Try.prog 91 #[W x, .int .i64 (-19)] w fun e w' => e = .returned (W (rr x 19)) ∧ w = w' := fun x w => rotl x 19 13 (by decide) (by decide) (by decide) w
        clear hXs e15 e2 e16 e7 hx hm gx
        go_wp2
        go_quiet (fail)
        go_wp2_with (first | ((with_reducible refine (r7 _ _).mono ?_); rintro e w' ⟨rfl, rfl⟩) | ((with_reducible refine (r18 _ _).mono ?_); rintro e w' ⟨rfl, rfl⟩) | ((with_reducible refine (r17 _ _).mono ?_); rintro e w' ⟨rfl, rfl⟩) | ((with_reducible refine (r19 _ _).mono ?_); rintro e w' ⟨rfl, rfl⟩))
        clear r7 r18 r17 r19 g15 g2
        generalize hq : wr.drewN nq = wq
        replace g16 : wq.cell? ⟨w.heap.size + 1, k - 16, none⟩ = some (W x16) := by rw [← hq]; exact g16
        replace g7 : wq.cell? ⟨w.heap.size + 1, k - 7, none⟩ = some (W x7) := by rw [← hq]; exact g7
        replace c3 : wq.cell? ⟨w.heap.size + 1, k, none⟩ = some (W ((spL l k).getD k 0)) := by rw [← hq]; exact c3
        replace f3 : wq.frozen? ⟨w.heap.size + 1, k, none⟩ = false := by rw [← hq]; exact f3
        have HQ := Lib.hid hq
        clear hq
        go_region
        clear n15 n2 n16 n7 p15 p2 p16 p7 l15 l2 l16 l7 v15 v2 v16 v7 g16 g7
        go_wp2
        go_roundg (64 - (k + 1))
        case measure => exact meas hk hlt
        case rel => exact ⟨k + 1, meas2 hlt, by go_num, ⟨by
          have h1 := HM.out.drewN nq
          rw [HQ.out] at h1
          have h2 := h1.put [] k (W (x16 + lsig0 x15 + x7 + lsig1 x2))
          rw [Ws_set, HX.out] at h2
          exact h2.drew⟩⟩
    · obtain rfl : k = 64 := by omega
      rw [spL_64] at hm
      have hb3 := hm.blk []
      have hb2 := hm.blk [_]
      have L1 := Lib.hid (show wr.rangeAt (w.heap.size + 1) 0 ((spreadK l 64).map W) from hb3.range fun j v hv => by
        rw [Nat.zero_add]
        simpa [Ws] using hv)
      have I1 := Lib.hid (show (Try.prog.info? 42).map (·.size) = some ((spreadK l 64).map W).length by rw [List.length_map, spreadK_len]; exact info_arr64)
      have I2 := Lib.hid (show (Try.prog.info? 42).map (·.size) = some (Ws (spreadK l 64)).size by rw [Ws_size, spreadK_len]; exact info_arr64)
      have H1 := Lib.hid (Ws_one (spreadK l 64))
      have HB := Lib.hid hb2
      have HM := Lib.hid hm
      clear hm hb2 hb3 hlt hk
      go_wp2_with (first | refine wpList_load_mid rfl _ _ rfl (w.heap.size + 1) 0 rfl ((spreadK l 64).map W) _ L1.out Try.underlying42 rfl I1.out ?_ | refine wpList_store_row rfl _ _ _ rfl w.heap.size (Ws (spreadK l 64)) rfl rfl 42 _ HB.out I2.out (by rw [Ws_size, Ws_size, spreadK_len]; rfl) H1.out ?_)
      refine bodyPost_ret (results_cell_row rfl _ _ w.heap.size 42 _ (0, 0) _ rfl (setRow_heap _ _ _ _ _ _ HB.out) Try.underlying42 rfl I2.out) rfl ⟨rfl, ?_⟩
      exact (Mst.setRow (bl := []) [_] HM.out _).bel
end Go.Proofs.Ytnbemfceoianiaa

/- Contracts of package digest: mix. -/
namespace Go.Proofs.Ytnbemfceoianiaa
set_option linter.unusedVariables false
open Go.RowKit

/-- Words ahead of other cells. -/
def hcs (l : List Wd) (rest : List Value) : Array Value := (l.map W ++ rest).toArray
theorem hcs_get {l : List Wd} {rest : List Value} {j : Nat} {x : Wd} (h : l[j]? = some x) : (hcs l rest)[j]? = some (W x) := by
  have hj : j < l.length := (List.getElem?_eq_some_iff.1 h).1
  simp only [hcs, List.getElem?_toArray]
  rw [List.getElem?_append_left (by simpa using hj)]
  simp [h]
theorem hcs_set (l : List Wd) (rest : List Value) {j : Nat} (hj : j < l.length) (x : Wd) : (hcs l rest).setIfInBounds j (W x) = hcs (l.set j x) rest := by
  simp only [hcs, List.setIfInBounds_toArray]
  rw [List.set_append_left _ _ (by simpa using hj), ← List.map_set]
/-- The first k words of two rows added. -/
def adK (s v : List Wd) (k : Nat) : List Wd := (List.zipWith (· + ·) s v).take k ++ s.drop k
theorem adK_len (s v : List Wd) (k : Nat) (h : s.length = v.length) : (adK s v k).length = s.length := by
  simp only [adK, List.length_append, List.length_take, List.length_drop, List.length_zipWith]
  omega
theorem adK_get (s v : List Wd) (k : Nat) (h : s.length = v.length) (hk : k < s.length) : (adK s v k)[k]? = some (s.getD k 0) := by
  have e : ((List.zipWith (· + ·) s v).take k).length = k := by simp; omega
  unfold adK
  rw [List.getElem?_append_right (by omega), e, Nat.sub_self, List.getElem?_drop, Nat.add_zero, List.getElem?_eq_getElem hk, List.getD_eq_getElem?_getD, List.getElem?_eq_getElem hk]
  rfl
theorem adK_set (s v : List Wd) (k : Nat) (h : s.length = v.length) (hk : k < s.length) : (adK s v k).set k (s.getD k 0 + v.getD k 0) = adK s v (k + 1) := by
  have e : ((List.zipWith (· + ·) s v).take k).length = k := by simp; omega
  unfold adK
  rw [List.set_append_right _ _ (by omega), e, Nat.sub_self, List.drop_eq_getElem_cons hk, List.set_cons_zero, List.take_succ_eq_append_getElem (by simp; omega), List.append_assoc]
  have hv : k < v.length := by omega
  simp [List.getD_eq_getElem?_getD, List.getElem?_eq_getElem hk, List.getElem?_eq_getElem hv]
theorem adK_0 (s v : List Wd) : adK s v 0 = s := by simp [adK]
theorem adK_8 (s v : H8) : adK s.l v.l 8 = (s.add v).l := rfl

theorem info_h8a : (Try.prog.info? 43).map (·.size) = some 8 := by kernel_rfl
structure MxR (w wr : World) (B : Nat) (ws : List Wd) (s : H8) (k : Nat) : Prop where
  m : Mst w wr [(B + 2, 43, Ws (roundsK ws s k).l), (B + 1, 42, Ws kTab), (B, 42, Ws ws)] []
structure MyR (w wr : World) (g B : Nat) (T : TypeId) (rest : List Value) (s v : H8) (k : Nat) : Prop where
  on : On w wr g
  bg : Bk wr g T (hcs (adK s.l v.l k) rest)
  bh : Bk wr (B + 2) 43 (Ws v.l)

abbrev Z64 : Array Value := #[Value.int IntKind.u32 0, Value.int IntKind.u32 0, Value.int IntKind.u32 0, Value.int IntKind.u32 0, Value.int IntKind.u32 0, Value.int IntKind.u32 0, Value.int IntKind.u32 0, Value.int IntKind.u32 0, Value.int IntKind.u32 0, Value.int IntKind.u32 0, Value.int IntKind.u32 0, Value.int IntKind.u32 0, Value.int IntKind.u32 0, Value.int IntKind.u32 0, Value.int IntKind.u32 0, Value.int IntKind.u32 0, Value.int IntKind.u32 0, Value.int IntKind.u32 0, Value.int IntKind.u32 0, Value.int IntKind.u32 0, Value.int IntKind.u32 0, Value.int IntKind.u32 0, Value.int IntKind.u32 0, Value.int IntKind.u32 0, Value.int IntKind.u32 0, Value.int IntKind.u32 0, Value.int IntKind.u32 0, Value.int IntKind.u32 0, Value.int IntKind.u32 0, Value.int IntKind.u32 0, Value.int IntKind.u32 0, Value.int IntKind.u32 0, Value.int IntKind.u32 0, Value.int IntKind.u32 0, Value.int IntKind.u32 0, Value.int IntKind.u32 0, Value.int IntKind.u32 0, Value.int IntKind.u32 0, Value.int IntKind.u32 0, Value.int IntKind.u32 0, Value.int IntKind.u32 0, Value.int IntKind.u32 0, Value.int IntKind.u32 0, Value.int IntKind.u32 0, Value.int IntKind.u32 0, Value.int IntKind.u32 0, Value.int IntKind.u32 0, Value.int IntKind.u32 0, Value.int IntKind.u32 0, Value.int IntKind.u32 0, Value.int IntKind.u32 0, Value.int IntKind.u32 0, Value.int IntKind.u32 0, Value.int IntKind.u32 0, Value.int IntKind.u32 0, Value.int IntKind.u32 0, Value.int IntKind.u32 0, Value.int IntKind.u32 0, Value.int IntKind.u32 0, Value.int IntKind.u32 0, Value.int IntKind.u32 0, Value.int IntKind.u32 0, Value.int IntKind.u32 0, Value.int IntKind.u32 0]
abbrev Z8 : Array Value := #[Value.int IntKind.u32 0, Value.int IntKind.u32 0, Value.int IntKind.u32 0, Value.int IntKind.u32 0, Value.int IntKind.u32 0, Value.int IntKind.u32 0, Value.int IntKind.u32 0, Value.int IntKind.u32 0]
/-- What a round writes. -/
abbrev rdA (a b cc d e f gg h y x : Wd) : Array Value := #[W (h + (rr e 6 ^^^ rr e 11 ^^^ rr e 25) + (e &&& f ^^^ ~~~e &&& gg) + y + x + ((rr a 2 ^^^ rr a 13 ^^^ rr a 22) + (a &&& b ^^^ a &&& cc ^^^ b &&& cc))), W a, W b, W cc, W (d + (h + (rr e 6 ^^^ rr e 11 ^^^ rr e 25) + (e &&& f ^^^ ~~~e &&& gg) + y + x)), W e, W f, W gg]
theorem rdA_eq (a b cc d e f gg h y x : Wd) : Ws (round1 ⟨a, b, cc, d, e, f, gg, h⟩ y x).l = rdA a b cc d e f gg h y x := rfl
/-- Two arrays that were just made and filled. -/
theorem two_new (w w2 : World) (h : Mst w w2 [] []) (T : TypeId) (Z K1 K2 : Array Value) : Bk ((w2.alloc (.cells Z T)).alloc (.cells Z T)) w2.heap.size T Z ∧
    Bk (((w2.alloc (.cells Z T)).alloc (.cells Z T)).setRow w2.heap.size K1) (w2.heap.size + 1) T Z ∧
    Mst w ((((w2.alloc (.cells Z T)).alloc (.cells Z T)).setRow w2.heap.size K1).setRow (w2.heap.size + 1) K2) [(w2.heap.size + 1, T, K2), (w2.heap.size, T, K1)] [] := by
  have m2 := (h.new T Z).new T Z
  rw [show (w2.alloc (.cells Z T)).heap.size = w2.heap.size + 1 by simp] at m2
  have m4 := Mst.setRow (bl := []) [_] m2 K1
  have m5 := Mst.setRow (bl := []) [] m4 K2
  exact ⟨m2.blk [_], m4.blk [], m5⟩
set_option maxRecDepth 100000 in
set_option maxHeartbeats 2000000 in
theorem mix_any (w : World) (g : Nat) (T : TypeId) (rest : List Value) (s : H8) (hb : Bk w g T (hcs s.l rest)) (A : Option Addr) (c : Nat) (l : List UInt8) (hl : l.length = 64) (hr : RB w w.heap.size A l) (hc : 64 ≤ c) (hcm : c ≤ 9223372036854775807) :
    Calls Try.prog 86 #[.pointer (some ⟨g, 0, none⟩), .slice A 64 c] w fun e w' => e = .returned (.tuple #[]) ∧ On w w' g ∧ Bk w' g T (hcs (mixW s l).l rest) := by
  have hsp := Lib.hid (spread_any w A c l hl hr hc hcm)
  have HB := Lib.hid hb
  obtain ⟨K1, hK1⟩ : ∃ K, Ws (spreadK l 64) = K := ⟨_, rfl⟩
  obtain ⟨K2, hK2⟩ : ∃ K, Ws kTab = K := ⟨_, rfl⟩
  have I1 := Lib.hid (show (Try.prog.info? 42).map (·.size) = some K1.size by rw [← hK1, Ws_size, spreadK_len]; exact info_arr64)
  have I2 := Lib.hid (show (Try.prog.info? 42).map (·.size) = some K2.size by rw [← hK2]; exact info_arr64)
  have S1 := Lib.hid (show Z64.size = K1.size by rw [← hK1, Ws_size, spreadK_len]; rfl)
  have S2 := Lib.hid (show Z64.size = K2.size by rw [← hK2]; rfl)
  have H1 := Lib.hid (show K1.all (·.oneCell') = true by rw [← hK1]; exact Ws_one _)
  have H2 := Lib.hid (show K2.all (·.oneCell') = true by rw [← hK2]; exact Ws_one _)
  rw [hK1] at hsp
  have htb : ∀ w, Calls Try.prog 89 #[] w fun e w' => e = .returned (.agg K2) ∧ Below w.heap.size w w' := by
    rw [← hK2]
    exact table_any
  have HK1 := Lib.hid hK1
  have HK2 := Lib.hid hK2
  have HT := Lib.hid htb
  clear hr hl hb hK1 hK2 htb
  go_enter Try.func86, Try.ntmps86
  go_wp2_with fail
  refine hsp.out.mono ?_
  rintro e w1 ⟨rfl, hb1⟩
  have HM1 := Lib.hid ((Mst.start w).below hb1)
  clear hb1
  go_wp2_with fail
  refine (HT.out w1).mono ?_
  rintro e w2 ⟨rfl, hb2⟩
  have HM2 := Lib.hid (HM1.out.below hb2)
  clear hb2
  obtain ⟨t1, t2, t3⟩ := two_new w w2 HM2.out 42 Z64 K1 K2
  have T1 := Lib.hid t1
  have T2 := Lib.hid t2
  have T3 := Lib.hid t3
  have hgw : g < w.heap.size := HB.out.lt
  have hgs : g < w2.heap.size := Nat.lt_of_lt_of_le hgw HM2.out.bel.size
  clear t1 t2 t3
  go_upto_region 1 with (first | refine wpList_store_row rfl _ _ _ rfl w2.heap.size K1 rfl rfl 42 _ T1.out I1.out S1.out H1.out ?_ | refine wpList_store_row rfl _ _ _ rfl (w2.heap.size + 1) K2 rfl rfl 42 _ T2.out I2.out S2.out H2.out ?_)
  have hs3 : ((((w2.alloc (.cells Z64 42)).alloc (.cells Z64 42)).setRow w2.heap.size K1).setRow (w2.heap.size + 1) K2).heap.size = w2.heap.size + 2 := by simp
  generalize ((((w2.alloc (.cells Z64 42)).alloc (.cells Z64 42)).setRow w2.heap.size K1).setRow (w2.heap.size + 1) K2) = w3 at T3 hs3 ⊢
  obtain ⟨B, hB⟩ : ∃ B, w2.heap.size = B := ⟨_, rfl⟩
  rw [hB] at T3 hs3 hgs ⊢
  clear T1 T2 HM2 HM1 hB
  obtain ⟨K3, hK3⟩ : ∃ K, Ws s.l = K := ⟨_, rfl⟩
  have L3 := Lib.hid (show w3.rangeAt g 0 (s.l.map W) from fun j v hv => by
    rw [Nat.zero_add]
    simp only [List.getElem?_map, Option.map_eq_some_iff] at hv
    obtain ⟨x, hx, rfl⟩ := hv
    exact T3.out.old hgw ((HB.out.cell j).trans (hcs_get hx)))
  have I3 := Lib.hid (show (Try.prog.info? 43).map (·.size) = some (s.l.map W).length from info_h8a)
  have I4 := Lib.hid (show (Try.prog.info? 43).map (·.size) = some K3.size by rw [← hK3]; exact info_h8a)
  have S3 := Lib.hid (show Z8.size = K3.size by rw [← hK3]; rfl)
  have H3 := Lib.hid (show K3.all (·.oneCell') = true by rw [← hK3]; exact Ws_one _)
  have HK3 := Lib.hid hK3
  have L3' := Lib.hid (show Value.agg (s.l.map W).toArray = .agg K3 by rw [← hK3]; rfl)
  have m4 := T3.out.new 43 Z8
  have m5 := Mst.setRow (bl := []) [] m4 K3
  rw [hs3] at m4 m5
  have T4 := Lib.hid (m4.blk [])
  have T5 := Lib.hid m5
  have HS3 := Lib.hid hs3
  clear m4 m5 hs3 hK3
  go_wp2_with (first | refine wpList_load_mid rfl _ _ rfl g 0 rfl (s.l.map W) _ L3.out Try.underlying43 rfl I3.out ?_ | refine wpList_store_row rfl _ _ _ rfl w3.heap.size K3 rfl L3'.out 43 _ (by rw [HS3.out]; exact T4.out) I4.out S3.out H3.out ?_)
  have hs3 := HS3.out
  rw [hs3]
  clear hs3 L3 L3' I4 S3 H3 T4
  have T6 := Lib.hid (show MxR w ((w3.alloc (.cells Z8 43)).setRow (B + 2) K3) B (spreadK l 64) s 0 from ⟨by
    rw [show Ws (roundsK (spreadK l 64) s 0).l = K3 from HK3.out, HK1.out, HK2.out]
    exact T5.out⟩)
  clear T5 T3 HS3 I1 I2 S1 S2 H1 H2 HK3
  go_loopg [19] 64 (fun gk s19 wr => ∃ k : Nat, k + gk = 64 ∧ s19 = .int .i64 k ∧ MxR w wr B (spreadK l 64) s k)
  case atStart => exact ⟨0, by omega, rfl, T6.out⟩
  case round =>
    obtain ⟨k, hk, rfl, ⟨hm⟩⟩ := hrel
    by_cases hlt : k < 64
    · obtain ⟨st, hst⟩ : ∃ st, roundsK (spreadK l 64) s k = st := ⟨_, rfl⟩
      obtain ⟨x, hx⟩ : ∃ x, (spreadK l 64).getD k 0 = x := ⟨_, rfl⟩
      obtain ⟨y, hy⟩ : ∃ y, kTab.getD k 0 = y := ⟨_, rfl⟩
      have gx : wr.cell? ⟨B, k, none⟩ = some (W x) := ((hm.blk [_, _]).cell k).trans (by rw [← hx]; exact Ws_getD (by rw [spreadK_len]; exact hlt))
      have gy : wr.cell? ⟨B + 1, k, none⟩ = some (W y) := ((hm.blk [_]).cell k).trans (by rw [← hy]; exact Ws_getD hlt)
      have hbh := hm.blk []
      have HM := Lib.hid hm
      rw [hst] at hbh
      obtain ⟨a, b, cc, d, e, f, gg, h⟩ := st
      have q0 : wr.cell? ⟨B + 2, 0, none⟩ = some (W a) := hbh.cell 0
      have q1 : wr.cell? ⟨B + 2, 1, none⟩ = some (W b) := hbh.cell 1
      have q2 : wr.cell? ⟨B + 2, 2, none⟩ = some (W cc) := hbh.cell 2
      have q3 : wr.cell? ⟨B + 2, 3, none⟩ = some (W d) := hbh.cell 3
      have q4 : wr.cell? ⟨B + 2, 4, none⟩ = some (W e) := hbh.cell 4
      have q5 : wr.cell? ⟨B + 2, 5, none⟩ = some (W f) := hbh.cell 5
      have q6 : wr.cell? ⟨B + 2, 6, none⟩ = some (W gg) := hbh.cell 6
      have q7 : wr.cell? ⟨B + 2, 7, none⟩ = some (W h) := hbh.cell 7
      have HBH := Lib.hid hbh
      have HX := Lib.hid (show roundsK (spreadK l 64) s (k + 1) = round1 ⟨a, b, cc, d, e, f, gg, h⟩ y x by rw [← hst, ← hx, ← hy]; rfl)
      have AX := fun (a b : Wd) (w : World) => W_xor (P := Try.prog) 41 a b w
      have AA := fun (a b : Wd) (w : World) => W_add (P := Try.prog) 41 a b w
      have AN := fun (a b : Wd) (w : World) => W_and (P := Try.prog) 41 a b w
      have AO := fun (a : Wd) (w : World) => W_not (P := Try.prog) a w
      clear hm hbh hst hx hy
      go_upto_region 6 with fail
      go_quiet ((go_at_call 90; exact Calls.quiet_of_same ((turned_any _ _ _ _ (by decide) (by decide) (by decide) _).mono fun _ _ ⟨h1, h2⟩ => ⟨h1, h2.symm⟩)))
      have HMq := Lib.hid (HM.out.drewN nq)
      have HBq := Lib.hid (HBH.out.drewN nq)
      clear gx gy q0 q1 q2 q3 q4 q5 q6 q7
      generalize wr.drewN nq = wq at HMq HBq ⊢
      have q0 : wq.cell? ⟨B + 2, 0, none⟩ = some (W a) := HBq.out.cell 0
      have q1 : wq.cell? ⟨B + 2, 1, none⟩ = some (W b) := HBq.out.cell 1
      have q2 : wq.cell? ⟨B + 2, 2, none⟩ = some (W cc) := HBq.out.cell 2
      go_wp2
      go_quiet ((go_at_call 90; exact Calls.quiet_of_same ((turned_any _ _ _ _ (by decide) (by decide) (by decide) _).mono fun _ _ ⟨h1, h2⟩ => ⟨h1, h2.symm⟩)))
      have HMp := Lib.hid (HMq.out.drewN nq)
      have HBp := Lib.hid (HBq.out.drewN nq)
      clear q0 q1 q2
      generalize wq.drewN nq = wp at HMp HBp ⊢
      have I8 := Lib.hid (show (Try.prog.info? 43).map (·.size) = some (rdA a b cc d e f gg h y x).size from info_h8a)
      have S8 := Lib.hid (show (Ws (H8.l ⟨a, b, cc, d, e, f, gg, h⟩)).size = (rdA a b cc d e f gg h y x).size from rfl)
      have O8 := Lib.hid (show (rdA a b cc d e f gg h y x).all (·.oneCell') = true by rw [← rdA_eq]; exact Ws_one _)
      have q0 : wp.cell? ⟨B + 2, 0, none⟩ = some (W a) := HBp.out.cell 0
      have q1 : wp.cell? ⟨B + 2, 1, none⟩ = some (W b) := HBp.out.cell 1
      have q2 : wp.cell? ⟨B + 2, 2, none⟩ = some (W cc) := HBp.out.cell 2
      have q3 : wp.cell? ⟨B + 2, 3, none⟩ = some (W d) := HBp.out.cell 3
      have q4 : wp.cell? ⟨B + 2, 4, none⟩ = some (W e) := HBp.out.cell 4
      have q5 : wp.cell? ⟨B + 2, 5, none⟩ = some (W f) := HBp.out.cell 5
      have q6 : wp.cell? ⟨B + 2, 6, none⟩ = some (W gg) := HBp.out.cell 6
      have SC := fun x => (Value.cells.eq_def (W x)).symm.trans (W_cells x)
      go_wp2_with (refine wpList_store_row rfl _ _ _ rfl (B + 2) (rdA a b cc d e f gg h y x) rfl rfl 43 _ HBp.out I8.out S8.out O8.out ?_)
      go_roundg (64 - (k + 1))
      case measure => exact meas hk hlt
      case rel => exact ⟨k + 1, meas2 hlt, by go_num, ⟨by
        rw [HX.out, rdA_eq]
        exact Mst.setRow (bl := []) [] HMp.out (rdA a b cc d e f gg h y x)⟩⟩
    · obtain rfl : k = 64 := by omega
      obtain ⟨v, hv⟩ : ∃ v, roundsK (spreadK l 64) s 64 = v := ⟨_, rfl⟩
      have HV := Lib.hid (show mixW s l = s.add v by rw [← hv]; rfl)
      rw [hv] at hm
      have T7 := Lib.hid (show MyR w wr g B T rest s v 0 from ⟨On.of_below hm.bel, by rw [adK_0]; exact HB.out.below hm.bel hgw, hm.blk []⟩)
      clear hm hlt hk hv T6
      go_wp2
      go_loopg [93] 8 (fun gk s93 wr => ∃ k : Nat, k + gk = 8 ∧ s93 = .int .i64 k ∧ MyR w wr g B T rest s v k)
      case atStart => exact ⟨0, by omega, rfl, T7.out⟩
      case round =>
        obtain ⟨k, hk, rfl, ⟨hon, hbg, hbh⟩⟩ := hrel
        by_cases hlt : k < 8
        · obtain ⟨x, hx⟩ : ∃ x, s.l.getD k 0 = x := ⟨_, rfl⟩
          obtain ⟨y, hy⟩ : ∃ y, v.l.getD k 0 = y := ⟨_, rfl⟩
          have gx := (hbg.cell k).trans (hcs_get (adK_get s.l v.l k rfl hlt))
          have gy := (hbh.cell k).trans (Ws_getD hlt)
          rw [hx] at gx
          rw [hy] at gy
          have fx := hbg.fr k
          have HX := Lib.hid (show (adK s.l v.l k).set k (x + y) = adK s.l v.l (k + 1) by rw [← hx, ← hy]; exact adK_set s.l v.l k rfl hlt)
          have HO := Lib.hid hon
          have HG := Lib.hid hbg
          have HH := Lib.hid hbh
          have AA := fun (a b : Wd) (w : World) => W_add (P := Try.prog) 41 a b w
          have ST := W_store (P := Try.prog)
          have SC := fun x => (Value.cells.eq_def (W x)).symm.trans (W_cells x)
          clear hon hbg hbh hx hy
          go_wp2
          go_region
          go_wp2
          go_roundg (8 - (k + 1))
          case measure => exact meas hk hlt
          case rel => exact ⟨k + 1, meas2 hlt, by go_num, ⟨(HO.out.set (p := ⟨g, k, none⟩) (.inl rfl) _).drew, by
            have := (HG.out.put k (W (x + y))).drew
            rw [hcs_set _ _ (by rw [adK_len s.l v.l k rfl]; exact hlt), HX.out] at this
            exact this, (HH.out.far (p := ⟨g, k, none⟩) (by simp; omega) _).drew⟩⟩
        · obtain rfl : k = 8 := by omega
          have HO := Lib.hid hon
          have HG := Lib.hid hbg
          clear hon hbg hbh hlt hk
          go_wp2
          go_end0
          exact ⟨rfl, HO.out, by rw [HV.out]; exact HG.out⟩
end Go.Proofs.Ytnbemfceoianiaa

/- Contracts of package digest: all whole blocks of a slice; out. -/
namespace Go.Proofs.Ytnbemfceoianiaa
set_option linter.unusedVariables false
open Go.RowKit

theorem shaN_snoc (s : H8) (l : List UInt8) (k : Nat) : shaN s l (k + 1) = mixW (shaN s l k) ((l.drop (64 * k)).take 64) := by
  induction k generalizing s l with
  | zero => rfl
  | succ k ih =>
    show shaN (mixW s (l.take 64)) (l.drop 64) (k + 1) = mixW (shaN (mixW s (l.take 64)) (l.drop 64) k) _
    rw [ih, List.drop_drop, show 64 + 64 * k = 64 * (k + 1) by omega]
/-- A slice's rest behind 64 elements. -/
theorem slice64 (b o n c : Nat) (hn : 64 ≤ n) (hc : n ≤ c) (hm : c ≤ 9223372036854775807) : ∃ A', (∀ w, (Instr.sliceAt 26 (.slice (some ⟨b, o, none⟩) n c) (some (.int .i64 64)) none none).run Try.prog w = .ok (.slice A' (n - 64) (c - 64)) w) ∧ (n ≠ 64 → A' = some ⟨b, o + 64, none⟩) := by
  have h1 : (64 : Int) ≤ n := by omega
  have h2 : (n : Int) ≤ c := by omega
  by_cases h : c = 64
  · subst h
    refine ⟨some ⟨b, o, none⟩, fun w => ?_, fun h => by omega⟩
    go_simp
  · refine ⟨some ⟨b, o + 64, none⟩, fun w => ?_, fun _ => rfl⟩
    go_simp

structure AlR (w wr : World) (g : Nat) (T : TypeId) (rest : List Value) (s : H8) (l : List UInt8) (b o c k : Nat) (A' : Option Addr) (n' c' : Nat) : Prop where
  on : On w wr g
  bg : Bk wr g T (hcs (shaN s l k).l rest)
  ad : 64 * k < l.length → A' = some ⟨b, o + 64 * k, none⟩
  hn : n' = l.length - 64 * k
  hc : n' ≤ c' ∧ c' ≤ c

set_option maxRecDepth 100000 in
set_option maxHeartbeats 1000000 in
theorem all_any (w : World) (g : Nat) (T : TypeId) (rest : List Value) (s : H8) (hb : Bk w g T (hcs s.l rest)) (b o c : Nat) (l : List UInt8) (hr : RB w w.heap.size (some ⟨b, o, none⟩) l) (hbg : b ≠ g) (hc : l.length ≤ c) (hcm : c ≤ 9223372036854775807) :
    Calls Try.prog 79 #[.pointer (some ⟨g, 0, none⟩), .slice (some ⟨b, o, none⟩) l.length c] w fun e w' => ∃ A' c', e = .returned (.slice A' (restA l).length c') ∧ On w w' g ∧ Bk w' g T (hcs (shaA s l).l rest) ∧
      (restA l ≠ [] → A' = some ⟨b, o + 64 * (l.length / 64), none⟩) ∧ (restA l).length ≤ c' ∧ c' ≤ c := by
  have T0 := Lib.hid (show AlR w w g T rest s l b o c 0 (some ⟨b, o, none⟩) l.length c from ⟨On.refl _ _, hb, fun _ => rfl, rfl, hc, Nat.le_refl _⟩)
  have HR := Lib.hid hr
  have hgw := hb.lt
  have hbw : 0 < l.length → b < w.heap.size := fun h => by
    obtain ⟨b', o', e, h1, _⟩ := hr.2 h
    injection e with e
    injection e with e1
    omega
  have HBW := Lib.hid hbw
  obtain ⟨n, hn⟩ : ∃ n, l.length = n := ⟨_, rfl⟩
  rw [hn] at T0 ⊢
  have HN := Lib.hid hn
  clear hb hr hbw hn hc
  go_enter Try.func79, Try.ntmps79
  go_wp2
  go_loopg [1] (n / 64) (fun gk s1 wr => ∃ k A' n' c', k + gk = n / 64 ∧ s1 = .slice A' n' c' ∧ AlR w wr g T rest s l b o c k A' n' c')
  case atStart => exact ⟨0, _, _, _, by omega, rfl, T0.out⟩
  case round =>
    obtain ⟨k, A', n', c', hk, rfl, hon, hbk, had, hn', hc1, hc2⟩ := hrel
    rw [HN.out] at had hn'
    by_cases hlt : k < n / 64
    · obtain rfl := had (by omega)
      have h64 : 64 ≤ n' := by omega
      have hd : ((l.drop (64 * k)).take 64).length = 64 := by simp only [List.length_take, List.length_drop]; have := HN.out; omega
      have hrd : RB wr wr.heap.size (some ⟨b, o + 64 * k, none⟩) ((l.drop (64 * k)).take 64) := by
        obtain ⟨b', o', e, h1, h2⟩ := HR.out.2 (by have := HN.out; omega)
        injection e with e
        injection e with e1 e2
        subst e1 e2
        refine ⟨by simp [by8], fun _ => ⟨b, o + 64 * k, rfl, Nat.lt_of_lt_of_le h1 hon.size, fun j u hu => ?_⟩⟩
        have hu2 : (by8 l)[64 * k + j]? = some u := by
          simp only [by8, List.map_take, List.map_drop] at hu ⊢
          rw [List.getElem?_take] at hu
          split at hu
          · rw [List.getElem?_drop] at hu; exact hu
          · cases hu
        rw [Nat.add_assoc]
        exact (On.cell hon h1 hbg).trans (h2 _ _ hu2)
      have hmx := Lib.hid (mix_any wr g T rest (shaN s l k) hbk _ c' _ hd hrd (by omega) (by omega))
      obtain ⟨A2, hs2, ha2⟩ := slice64 b (o + 64 * k) n' c' h64 hc1 (by omega)
      have HA2 := Lib.hid ha2
      have hcc : 64 ≤ c' := by omega
      have HO := Lib.hid hon
      have HN' := Lib.hid hn'
      clear hon hbk had hd hrd ha2 hn'
      go_wp2_with fail
      refine hmx.out.mono ?_
      rintro e w1 ⟨rfl, ho1, hb1⟩
      have HO1 := Lib.hid (HO.out.trans ho1)
      have HB1 := Lib.hid hb1
      clear ho1 hb1
      go_wp2
      go_roundg (n / 64 - (k + 1))
      case measure => exact meas hk hlt
      case rel =>
        refine ⟨k + 1, A2, n' - 64, c' - 64, meas2 hlt, rfl, HO1.out, by rw [shaN_snoc]; exact HB1.out, fun h => ?_, ?_, by omega, by omega⟩
        · have h1 := HN'.out
          have h2 := HN.out
          rw [HA2.out (by omega), Nat.mul_add, Nat.mul_one, Nat.add_assoc]
        · have h1 := HN'.out
          have h2 := HN.out
          omega
    · have e : k = n / 64 := by omega
      subst e
      have hlt64 : n' < 64 := by omega
      have hl2 : (restA l).length = n' := by rw [restA_len, HN.out]; omega
      have h3 : restA l ≠ [] → A' = some ⟨b, o + 64 * (n / 64), none⟩ := fun h => had (by
        have := List.length_pos_iff.2 h
        omega)
      have H3 := Lib.hid h3
      have HL := Lib.hid hl2
      have HO := Lib.hid hon
      have HB := Lib.hid hbk
      clear hon hbk had hn' h3 hl2 hlt hk
      go_wp2
      go_ret
      exact ⟨A', c', by rw [HL.out]; rfl, HO.out, by
        have := HB.out
        unfold shaA
        rw [HN.out]
        exact this, H3.out, by rw [HL.out]; exact hc1, hc2⟩

theorem info_arr32 : (Try.prog.info? 27).map (·.size) = some 32 := by kernel_rfl
theorem info_h8b : (Try.prog.info? 43).map (·.size) = some 8 := by kernel_rfl
/-- Bytes of a word. -/
theorem W_byte (x : Wd) (w : World) : (convert 41 5 (W x)).run Try.prog w = .ok (.int .u8 ((UInt8.ofNat x.toNat).toNat : Int)) w := by
  have : (convert 41 5 (W x)).run Try.prog w = .ok (.int .u8 (IntKind.u8.wrap (x.toNat : Int))) w := by
    unfold W
    go_simp
  rw [this, wrap_u8]
  congr 2
theorem W_byteS (x : Wd) (n : Nat) (w : World) : (convert 41 5 (W (x >>> n))).run Try.prog w = .ok (.int .u8 ((UInt8.ofNat (x.toNat >>> n)).toNat : Int)) w := by
  rw [W_byte, BitVec.toNat_ushiftRight]
/-- The first k of a row's bytes, and nothing behind them. -/
def upB (L : List UInt8) (k : Nat) : List UInt8 := L.take k ++ List.replicate (L.length - k) 0
theorem upB_len (L : List UInt8) {k : Nat} (h : k ≤ L.length) : (upB L k).length = L.length := by simp [upB]; omega
theorem upB_set (L : List UInt8) {k : Nat} {x : UInt8} (h : L[k]? = some x) : (upB L k).set k x = upB L (k + 1) := by
  have hk : k < L.length := (List.getElem?_eq_some_iff.1 h).1
  have e : (L.take k).length = k := by simp; omega
  unfold upB
  rw [List.set_append_right _ _ (by omega), e, Nat.sub_self, show L.length - k = (L.length - (k + 1)) + 1 by omega, List.replicate_succ, List.set_cons_zero, List.take_succ_eq_append_getElem hk, List.append_assoc]
  rw [List.getElem?_eq_getElem hk] at h
  injection h with h
  rw [h]
  rfl
def b8a (l : List UInt8) : Array Value := (by8 l).toArray
theorem b8a_set (l : List UInt8) (k : Nat) (b : UInt8) : (b8a l).setIfInBounds k (.int .u8 (b.toNat : Int)) = b8a (l.set k b) := by simp [b8a, by8_set]
theorem b8a_get {l : List UInt8} {k : Nat} (h : k < l.length) : (b8a l)[k]? = some (.int .u8 ((l.getD k 0).toNat : Int)) := by
  simp only [b8a, List.getElem?_toArray]
  exact by8_getD h
theorem b8a_size (l : List UInt8) : (b8a l).size = l.length := by simp [b8a, by8_length]
theorem b8a_one (l : List UInt8) : (b8a l).all (·.oneCell') = true := by
  rw [Array.all_eq_true_iff_forall_mem]
  intro v hv
  exact by8_one l v (by simpa [b8a] using hv)
abbrev Y32 : Array Value := #[Value.int IntKind.u8 0, Value.int IntKind.u8 0, Value.int IntKind.u8 0, Value.int IntKind.u8 0, Value.int IntKind.u8 0, Value.int IntKind.u8 0, Value.int IntKind.u8 0, Value.int IntKind.u8 0, Value.int IntKind.u8 0, Value.int IntKind.u8 0, Value.int IntKind.u8 0, Value.int IntKind.u8 0, Value.int IntKind.u8 0, Value.int IntKind.u8 0, Value.int IntKind.u8 0, Value.int IntKind.u8 0, Value.int IntKind.u8 0, Value.int IntKind.u8 0, Value.int IntKind.u8 0, Value.int IntKind.u8 0, Value.int IntKind.u8 0, Value.int IntKind.u8 0, Value.int IntKind.u8 0, Value.int IntKind.u8 0, Value.int IntKind.u8 0, Value.int IntKind.u8 0, Value.int IntKind.u8 0, Value.int IntKind.u8 0, Value.int IntKind.u8 0, Value.int IntKind.u8 0, Value.int IntKind.u8 0, Value.int IntKind.u8 0]
theorem zero32 (L : List UInt8) (h : L.length = 32) : b8a (upB L 0) = Y32 := by
  unfold upB
  rw [h]
  rfl
theorem out_at (s : H8) (k : Nat) (h : k < 8) : (outW s)[4 * k]? = some (UInt8.ofNat ((s.l.getD k 0).toNat >>> 24)) ∧ (outW s)[4 * k + 1]? = some (UInt8.ofNat ((s.l.getD k 0).toNat >>> 16)) ∧
    (outW s)[4 * k + 2]? = some (UInt8.ofNat ((s.l.getD k 0).toNat >>> 8)) ∧ (outW s)[4 * k + 3]? = some (UInt8.ofNat (s.l.getD k 0).toNat) := by
  have h8 : k = 0 ∨ k = 1 ∨ k = 2 ∨ k = 3 ∨ k = 4 ∨ k = 5 ∨ k = 6 ∨ k = 7 := by omega
  rcases h8 with rfl | rfl | rfl | rfl | rfl | rfl | rfl | rfl <;> exact ⟨rfl, rfl, rfl, rfl⟩
theorem outW_len (s : H8) : (outW s).length = 32 := rfl

structure OuR (w wr : World) (s : H8) (k : Nat) : Prop where
  m : Mst w wr [(w.heap.size + 1, 27, b8a (upB (outW s) (4 * k))), (w.heap.size, 27, Y32)] []
set_option maxRecDepth 100000 in
set_option maxHeartbeats 1000000 in
theorem out_any (w : World) (g : Nat) (T : TypeId) (rest : List Value) (s : H8) (hb : Bk w g T (hcs s.l rest)) :
    Calls Try.prog 82 #[.pointer (some ⟨g, 0, none⟩)] w fun e w' => e = .returned (.agg (b8a (outW s))) ∧ Below w.heap.size w w' := by
  have m0 := ((Mst.start w).new 27 Y32).new 27 Y32
  rw [show (w.alloc (.cells Y32 27)).heap.size = w.heap.size + 1 by simp] at m0
  have T0 := Lib.hid (show OuR w ((w.alloc (.cells Y32 27)).alloc (.cells Y32 27)) s 0 from ⟨by rw [zero32 _ (outW_len s)]; exact m0⟩)
  have hgw := hb.lt
  have HB := Lib.hid hb
  have L3 := Lib.hid (show ((w.alloc (.cells Y32 27)).alloc (.cells Y32 27)).rangeAt g 0 (s.l.map W) from fun j v hv => by
    rw [Nat.zero_add]
    simp only [List.getElem?_map, Option.map_eq_some_iff] at hv
    obtain ⟨x, hx, rfl⟩ := hv
    exact m0.old hgw ((HB.out.cell j).trans (hcs_get hx)))
  have I3 := Lib.hid (show (Try.prog.info? 43).map (·.size) = some (s.l.map W).length from info_h8b)
  obtain ⟨K3, hK3⟩ : ∃ K, Ws s.l = K := ⟨_, rfl⟩
  have HI : ∀ (k : Nat), k < 8 → ∀ w, (Instr.index 43 (.agg (Ws s.l)) (.int .i64 k)).run Try.prog w = .ok (W (s.l.getD k 0)) w := fun k hk w =>
    run_index_arr Try.underlying43 (agg_no Try.underlying41 rfl) (size_of (by kernel_rfl)) (by omega) (by omega) (by rw [show ((k : Int)).toNat = k by omega]; exact Ws_getD hk) w
  rw [hK3] at HI
  have HI' := Lib.hid HI
  have HK := Lib.hid (show (List.map W s.l).toArray = K3 from hK3)
  clear hb m0 hK3 HI
  go_enter Try.func82, Try.ntmps82
  go_wp2_with (first | refine wpList_load_mid rfl _ _ rfl g 0 rfl (s.l.map W) _ L3.out Try.underlying43 rfl I3.out ?_)
  rw [HK.out]
  go_loopg [10] 8 (fun gk s10 wr => ∃ k : Nat, k + gk = 8 ∧ s10 = .int .i64 k ∧ OuR w wr s k)
  case atStart => exact ⟨0, by omega, rfl, T0.out⟩
  case round =>
    obtain ⟨k, hk, rfl, ⟨hm⟩⟩ := hrel
    by_cases hlt : k < 8
    · have hi := HI'.out k hlt
      obtain ⟨o0, o1, o2, o3⟩ := out_at s k hlt
      obtain ⟨x, hx⟩ : ∃ x, s.l.getD k 0 = x := ⟨_, rfl⟩
      rw [hx] at hi o0 o1 o2 o3
      have kb := hm.blk []
      have hlen : (upB (outW s) (4 * k)).length = 32 := upB_len _ (by rw [outW_len]; omega)
      have c0 := (kb.cell (4 * k)).trans (b8a_get (by omega))
      have c1 := (kb.cell (4 * k + 1)).trans (b8a_get (by omega))
      have c2 := (kb.cell (4 * k + 2)).trans (b8a_get (by omega))
      have c3 := (kb.cell (4 * k + 3)).trans (b8a_get (by omega))
      have f0 := kb.fr (4 * k)
      have f1 := kb.fr (4 * k + 1)
      have f2 := kb.fr (4 * k + 2)
      have f3 := kb.fr (4 * k + 3)
      have b0 : ∀ w, (convert 41 5 (W (x >>> 24))).run Try.prog w = .ok (.int .u8 ((UInt8.ofNat (x.toNat >>> 24)).toNat : Int)) w := W_byteS x 24
      have b1 : ∀ w, (convert 41 5 (W (x >>> 16))).run Try.prog w = .ok (.int .u8 ((UInt8.ofNat (x.toNat >>> 16)).toNat : Int)) w := W_byteS x 16
      have b2 : ∀ w, (convert 41 5 (W (x >>> 8))).run Try.prog w = .ok (.int .u8 ((UInt8.ofNat (x.toNat >>> 8)).toNat : Int)) w := W_byteS x 8
      have b3 : ∀ w, (convert 41 5 (W x)).run Try.prog w = .ok (.int .u8 ((UInt8.ofNat x.toNat).toNat : Int)) w := W_byte x
      obtain ⟨B0, h0⟩ : ∃ B, UInt8.ofNat (x.toNat >>> 24) = B := ⟨_, rfl⟩
      obtain ⟨B1, h1⟩ : ∃ B, UInt8.ofNat (x.toNat >>> 16) = B := ⟨_, rfl⟩
      obtain ⟨B2, h2⟩ : ∃ B, UInt8.ofNat (x.toNat >>> 8) = B := ⟨_, rfl⟩
      obtain ⟨B3, h3⟩ : ∃ B, UInt8.ofNat x.toNat = B := ⟨_, rfl⟩
      rw [h0] at b0 o0
      rw [h1] at b1 o1
      rw [h2] at b2 o2
      rw [h3] at b3 o3
      have s24 : ∀ w, (binOp .shr 41 (W x) (.int .u64 24)).run Try.prog w = .ok (W (x >>> 24)) w := fun w => W_shr 41 x w .u64 24 (by decide)
      have s16 : ∀ w, (binOp .shr 41 (W x) (.int .u64 16)).run Try.prog w = .ok (W (x >>> 16)) w := fun w => W_shr 41 x w .u64 16 (by decide)
      have s8 : ∀ w, (binOp .shr 41 (W x) (.int .u64 8)).run Try.prog w = .ok (W (x >>> 8)) w := fun w => W_shr 41 x w .u64 8 (by decide)
      have O0 := Lib.hid (upB_set _ o0)
      have O1 := Lib.hid (upB_set _ o1)
      have O2 := Lib.hid (upB_set _ o2)
      have O3 := Lib.hid (upB_set _ o3)
      have HM := Lib.hid hm
      clear hm kb hlen hx h0 h1 h2 h3 o0 o1 o2 o3
      go_wp2
      go_roundg (8 - (k + 1))
      case measure => exact meas hk hlt
      case rel => exact ⟨k + 1, meas2 hlt, by go_num, ⟨by
        have m1 := Mst.put [] HM.out (4 * k) (.int .u8 (B0.toNat : Int))
        rw [b8a_set, O0.out] at m1
        have m2 := Mst.put [] m1 (4 * k + 1) (.int .u8 (B1.toNat : Int))
        rw [b8a_set, O1.out] at m2
        have m3 := Mst.put [] m2 (4 * k + 2) (.int .u8 (B2.toNat : Int))
        rw [b8a_set, O2.out] at m3
        have m4 := Mst.put [] m3 (4 * k + 3) (.int .u8 (B3.toNat : Int))
        rw [b8a_set, O3.out] at m4
        exact m4⟩⟩
    · obtain rfl : k = 8 := by omega
      have e8 : upB (outW s) (4 * 8) = outW s := by unfold upB; rw [outW_len]; rfl
      rw [e8] at hm
      have hb3 := hm.blk []
      have L1 := Lib.hid (show wr.rangeAt (w.heap.size + 1) 0 (by8 (outW s)) from hb3.range fun j v hv => by
        rw [Nat.zero_add]
        simpa [b8a] using hv)
      have I1 := Lib.hid (show (Try.prog.info? 27).map (·.size) = some (by8 (outW s)).length by rw [by8_length, outW_len]; exact info_arr32)
      have I2 := Lib.hid (show (Try.prog.info? 27).map (·.size) = some (b8a (outW s)).size by rw [b8a_size, outW_len]; exact info_arr32)
      have H1 := Lib.hid (b8a_one (outW s))
      have HB2 := Lib.hid (hm.blk [_])
      have HM := Lib.hid hm
      clear hm hb3 hlt hk e8
      go_wp2_with (first | refine wpList_load_mid rfl _ _ rfl (w.heap.size + 1) 0 rfl (by8 (outW s)) _ L1.out Try.underlying27 rfl I1.out ?_ | refine wpList_store_row rfl _ _ _ rfl w.heap.size (b8a (outW s)) rfl rfl 27 _ HB2.out I2.out (by rw [b8a_size, outW_len]; rfl) H1.out ?_)
      refine bodyPost_ret (results_cell_row rfl _ _ w.heap.size 27 _ (0, 0) _ rfl (setRow_heap _ _ _ _ _ _ HB2.out) Try.underlying27 rfl I2.out) rfl ⟨rfl, ?_⟩
      exact (Mst.setRow (bl := []) [_] HM.out _).bel
end Go.Proofs.Ytnbemfceoianiaa

/- Contracts of package digest: a running digest: what it is, Len, Add. -/
namespace Go.Proofs.Ytnbemfceoianiaa
set_option linter.unusedVariables false
open Go.RowKit

theorem all_gen (w : World) (g : Nat) (T : TypeId) (rest : List Value) (s : H8) (hb : Bk w g T (hcs s.l rest)) (A : Option Addr) (c : Nat) (l : List UInt8) (hr : RB w w.heap.size A l) (hbg : ∀ b o, A = some ⟨b, o, none⟩ → b ≠ g) (hc : l.length ≤ c) (hcm : c ≤ 9223372036854775807) :
    Calls Try.prog 79 #[.pointer (some ⟨g, 0, none⟩), .slice A l.length c] w fun e w' => ∃ A' c', e = .returned (.slice A' (restA l).length c') ∧ On w w' g ∧ Bk w' g T (hcs (shaA s l).l rest) ∧
      (restA l ≠ [] → ∃ b o, A = some ⟨b, o, none⟩ ∧ A' = some ⟨b, o + 64 * (l.length / 64), none⟩) ∧ (restA l).length ≤ c' ∧ c' ≤ c := by
  by_cases h0 : l = []
  · subst h0
    have h1 := Lib.hid hb
    clear hb hr hbg
    go_enter Try.func79, Try.ntmps79
    go_wp2_with fail
    go_loopg [1] 0 (fun gk s1 wr => s1 = .slice A 0 c ∧ wr = w)
    case atStart => exact ⟨rfl, rfl⟩
    case round =>
      obtain ⟨rfl, rfl⟩ := hrel
      go_wp2
      go_ret
      exact ⟨A, c, rfl, On.refl _ _, h1.out, fun h => absurd rfl h, hc, Nat.le_refl _⟩
  · obtain ⟨b, o, e, hbw, _⟩ := hr.2 (List.length_pos_iff.2 h0)
    subst e
    refine (all_any w g T rest s hb b o c l hr (hbg b o rfl) hc hcm).mono ?_
    rintro e w' ⟨A', c', h1, h2, h3, h4, h5, h6⟩
    exact ⟨A', c', h1, h2, h3, fun h => ⟨b, o, rfl, h4 h⟩, h5, h6⟩

/-- The cells of a running digest: on, what is left, how many. -/
def told : Option (List UInt8) → List UInt8 := fun st => st.getD []
def hw : Option (List UInt8) → List Wd
  | none => List.replicate 8 0
  | some l => (shaA h0 l).l
theorem hw_len (st : Option (List UInt8)) : (hw st).length = 8 := by cases st <;> rfl
def rtl (st : Option (List UInt8)) (A : Option Addr) (c : Nat) : List Value := [.bool st.isSome, .slice A (restA (told st)).length c, .int .i64 ((told st).length : Nat)]
def rcells (st : Option (List UInt8)) (A : Option Addr) (c : Nat) : Array Value := hcs (hw st) (rtl st A c)
/-- A running digest in block g, told st's bytes; its rest lies in the rows hr. -/
def RunAt (W : World) (g : Nat) (st : Option (List UInt8)) (x : Nat × TypeId × Array Value) (hr : List Ro) : Prop :=
  ∃ A c, x = (g, 117, rcells st A c) ∧ Src W [] hr 1 A (restA (told st)).length (by8 (restA (told st))) ∧ (restA (told st)).length ≤ c ∧ c ≤ 9223372036854775807
def RunX (W w : World) (xb : Bl) (xr : List Ro) (g : Nat) (st : Option (List UInt8)) : Prop := ∃ x hr, RunAt W g st x hr ∧ Mst W w (x :: xb) (hr ++ xr)
/-- Parts, by what the memory of a call is known to hold. -/
def SPts (W : World) (xb : Bl) (xr : List Ro) (A : Option Addr) (ps : List Pt) : Prop := Src W xb xr 1 A ps.length (ps.map Pt.v) ∧ ∀ p ∈ ps, Src W xb xr 1 p.A p.l.length (by8 p.l)
theorem Mst.pts {W w : World} {xb : Bl} {xr : List Ro} {A : Option Addr} {ps : List Pt} (h : Mst W w xb xr) (hp : SPts W xb xr A ps) : Pts w A ps := ⟨h.src hp.1, fun p hm => h.src (hp.2 p hm)⟩
theorem SPts.sub {W : World} {xb xb' : Bl} {xr xr' : List Ro} {A : Option Addr} {ps : List Pt} (h : SPts W xb xr A ps) (h1 : ∀ x ∈ xb, x ∈ xb') (h2 : ∀ y ∈ xr, y ∈ xr') : SPts W xb' xr' A ps := ⟨h.1.sub h1 h2, fun p hm => (h.2 p hm).sub h1 h2⟩
theorem SPts.nil_ (W : World) (xb : Bl) (xr : List Ro) (A : Option Addr) : SPts W xb xr A [] := ⟨Src.nil_ _ _ _ _ _, by simp⟩

/-- Cells, one behind the other. -/
def setAll : Array Value → Nat → List Value → Array Value
  | cs, _, [] => cs
  | cs, o, v :: vs => setAll (cs.setIfInBounds o v) (o + 1) vs
theorem Mst.putCells {W wr : World} {bl : Bl} {ow : List Ro} (pre : Bl) {post : Bl} {g : Nat} {t : TypeId} : ∀ (vs : List Value) (o : Nat) (wr : World) (cs : Array Value), Mst W wr (pre ++ (g, t, cs) :: post) ow →
    Mst W (wr.setCells g o vs) (pre ++ (g, t, setAll cs o vs) :: post) ow
  | [], _, _, _, h => h
  | v :: vs, o, wr, cs, h => Mst.putCells (bl := bl) (wr := wr) pre vs (o + 1) _ _ (h.put pre o v)
theorem set_begun (rest : List Value) (s : H8) : setAll (hcs (List.replicate 8 0) rest) 0 (s.l.map W) = hcs s.l rest := by
  simp only [H8.l, List.map_cons, List.map_nil, setAll]
  rw [hcs_set _ _ (by simp), hcs_set _ _ (by simp), hcs_set _ _ (by simp), hcs_set _ _ (by simp), hcs_set _ _ (by simp), hcs_set _ _ (by simp), hcs_set _ _ (by simp), hcs_set _ _ (by simp)]
  rfl
theorem Bk.there {w : World} {g : Nat} {t : TypeId} {cs : Array Value} (h : Bk w g t cs) {o n : Nat} (hn : o + n ≤ cs.size) : w.there g o n := fun j hj => ⟨by
  rw [h.cell]
  simp
  omega, h.fr _⟩
theorem hcs_size (l : List Wd) (rest : List Value) : (hcs l rest).size = l.length + rest.length := by simp [hcs]
theorem hcs_rest (l : List Wd) (rest : List Value) (j : Nat) : (hcs l rest)[l.length + j]? = rest[j]? := by
  simp only [hcs, List.getElem?_toArray]
  rw [List.getElem?_append_right (by simp)]
  simp
theorem hcs_setR (l : List Wd) (rest : List Value) (j : Nat) (v : Value) : (hcs l rest).setIfInBounds (l.length + j) v = hcs l (rest.set j v) := by
  simp only [hcs, List.setIfInBounds_toArray]
  rw [List.set_append_right _ _ (by simp)]
  simp

/-- Two parts, one behind the other, in a row of the call's own. -/
theorem concat2_step (W0 w : World) (xb : Bl) (xr : List Ro) (h : Mst W0 w xb xr) (p q : Pt) (s1 : Src W0 xb xr 1 p.A p.l.length (by8 p.l)) (s2 : Src W0 xb xr 1 q.A q.l.length (by8 q.l)) (hl : p.l.length + q.l.length ≤ 1000000) (X : List UInt8) (hX : p.l ++ q.l = X) :
    Calls Try.prog 80 #[.slice (some ⟨w.heap.size, 0, none⟩) 2 2] (w.alloc (.cells #[p.v, q.v] 26)) fun e w' => ∃ A c, e = .returned (.slice A X.length c) ∧
      Mst W0 w' xb (⟨5, 1, .slice A X.length c, X.length, by8 X⟩ :: xr) ∧ X.length ≤ c ∧ c ≤ 9223372036854775807 := by
  subst hX
  have m1 := h.newrow 26 1 2 2 #[p.v, q.v] (Nat.le_refl _) (by decide) rfl
  have e2 : catP [p, q] = p.l ++ q.l := by simp [catP]
  have hp : Pts (w.alloc (.cells #[p.v, q.v] 26)) (some ⟨w.heap.size, 0, none⟩) [p, q] := by
    refine ⟨m1.src (m1.rowSrc (List.mem_cons_self ..)), fun x hx => ?_⟩
    have hx2 : x = p ∨ x = q := by simpa using hx
    rcases hx2 with rfl | rfl
    · exact m1.src (s1.cr _)
    · exact m1.src (s2.cr _)
  refine (concat_any _ _ 2 [p, q] hp (by simp) (by rw [e2]; simpa using hl)).mono ?_
  rintro e w' ⟨v, rfl, hf⟩
  rw [e2] at hf
  have m2 := m1.addr hf
  have m3 := m2.sub (List.Sublist.refl _) (List.Sublist.cons_cons _ (List.sublist_cons_self _ _))
  obtain ⟨A, c, rfl, _, h1, h2, _⟩ := own_form hf.own
  refine ⟨A, c, rfl, m3, h2, ?_⟩
  rcases hf.own.2 with ⟨e1, _⟩ | ⟨g, cap, cur, e1, _, _, _, hc, _⟩
  · simp only [Value.slice.injEq] at e1
    omega
  · simp only [Value.slice.injEq] at e1
    unfold maxLen at hc
    omega
/-- All whole blocks of a row of the call's own. -/
theorem all_step (W0 w : World) (xb : Bl) (xr : List Ro) (g : Nat) (rest : List Value) (s : H8) (A : Option Addr) (c : Nat) (l : List UInt8)
    (h : Mst W0 w ((g, 117, hcs s.l rest) :: xb) (⟨5, 1, .slice A l.length c, l.length, by8 l⟩ :: xr)) (hc : l.length ≤ c) (hcm : c ≤ 9223372036854775807) :
    Calls Try.prog 79 #[.pointer (some ⟨g, 0, none⟩), .slice A l.length c] w fun e w' => ∃ A' c', e = .returned (.slice A' (restA l).length c') ∧
      Mst W0 w' ((g, 117, hcs (shaA s l).l rest) :: xb) (⟨5, 1, .slice A l.length c, l.length, by8 l⟩ :: xr) ∧
      Src W0 [] [⟨5, 1, .slice A l.length c, l.length, by8 l⟩] 1 A' (restA l).length (by8 (restA l)) ∧ (restA l).length ≤ c' ∧ c' ≤ 9223372036854775807 := by
  have hrow := h.row []
  have hkb := h.blk []
  have hne := h.ne _ (List.mem_cons_self ..) _ (List.mem_cons_self ..)
  have hrs : Src W0 [] [⟨5, 1, .slice A l.length c, l.length, by8 l⟩] 1 A l.length (by8 l) := (h.sub (List.nil_sublist _) (List.Sublist.cons_cons _ (List.nil_sublist _))).rowSrc (List.mem_singleton_self _)
  refine (all_gen w g _ rest s hkb A c l (own_rd hrow) (fun b o e => ?_) hc hcm).mono ?_
  · subst e
    intro e2
    exact hne (by rw [e2]; rfl)
  · rintro e w' ⟨A', c', rfl, h2, h3, h4, h5, h6⟩
    refine ⟨A', c', rfl, h.on [] h2 h3, ?_, h5, by omega⟩
    by_cases h0 : restA l = []
    · rw [h0]
      exact Src.nil_ _ _ _ _ _
    · obtain ⟨b, o, rfl, rfl⟩ := h4 h0
      have := hrs.part rfl (64 * (l.length / 64)) (restA l).length (by rw [restA_len]; omega)
      rw [Nat.mul_one, Nat.mul_one] at this
      have e1 : ((by8 l).drop (64 * (l.length / 64))).take (restA l).length = by8 (restA l) := by
        have e2 : (by8 l).drop (64 * (l.length / 64)) = by8 (restA l) := by simp [by8, restA, List.map_drop]
        rw [e2, List.take_of_length_le (by rw [by8_length]; exact Nat.le_refl _)]
      rw [e1] at this
      exact this

structure AdR (W wr : World) (xb : Bl) (xr : List Ro) (g : Nat) (l : List UInt8) : Prop where
  x : RunX W wr xb xr g (some l)
set_option maxRecDepth 100000 in
set_option maxHeartbeats 400000 in
theorem add_any (W0 w : World) (xb : Bl) (xr : List Ro) (g : Nat) (st : Option (List UInt8)) (hR : RunX W0 w xb xr g st) (A : Option Addr) (c : Nat) (ps : List Pt) (hp : SPts W0 xb xr A ps) (hn : ps.length ≤ 1000) (hl : (told st).length + (catP ps).length ≤ 1000000) :
    Calls Try.prog 65 #[.pointer (some ⟨g, 0, none⟩), .slice A ps.length c] w fun e w' => e = .returned (.pointer (some ⟨g, 0, none⟩)) ∧ RunX W0 w' xb xr g (some (told st ++ catP ps)) := by
  have HP := Lib.hid hp
  have hl1 : (told st).length ≤ 1000000 := by omega
  obtain ⟨L0, hL0⟩ : ∃ L, told st = L := ⟨_, rfl⟩
  obtain ⟨n, hN⟩ : ∃ n, ps.length = n := ⟨_, rfl⟩
  rw [hN] at hn ⊢
  have HN := Lib.hid hN
  have HLL := Lib.hid hl
  have HL0 := Lib.hid hL0
  obtain ⟨x, hr, ⟨A0, c0, rfl, hs, hc1, hc2⟩, hm⟩ := hR
  have kb := hm.blk []
  obtain ⟨B, hB⟩ : ∃ B, st.isSome = B := ⟨_, rfl⟩
  have q8 : w.cell? ⟨g, 8, none⟩ = some (.bool B) := by
    rw [kb.cell 8, ← hB]
    have := hcs_rest (hw st) (rtl st A0 c0) 0
    rw [hw_len] at this
    exact this
  have HB := Lib.hid hB
  have HM := Lib.hid hm
  have HS := Lib.hid hs
  have hgw := kb.lt
  clear hp hN hl hL0 kb hm hs hB
  go_enter Try.func65, Try.ntmps65
  go_upto_if 13 with (fail)
  go_cut [] (fun wr => AdR W0 wr xb xr g L0)
  case first =>
    cases B with
    | true =>
      obtain ⟨l, rfl⟩ := Option.isSome_iff_exists.1 HB.out
      have T0 := Lib.hid (show AdR W0 w xb xr g L0 from ⟨by
        have : l = L0 := HL0.out
        rw [← this]
        exact ⟨_, hr, ⟨A0, c0, rfl, HS.out, hc1, hc2⟩, HM.out⟩⟩)
      go_wp2_with fail
      go_meet
      exact T0.out
    | false =>
      have hn0 : st = none := by
        have := HB.out
        cases st with
        | none => rfl
        | some l => cases this
      subst hn0
      obtain ⟨KB, hKB⟩ : ∃ K : Array Value, (h0.l.map W).toArray = K := ⟨_, rfl⟩
      have bg := begun_any w
      rw [hKB] at bg
      have BG := Lib.hid bg
      have HKB := Lib.hid (show KB.toList = h0.l.map W by rw [← hKB])
      clear bg
      go_wp2_with fail
      refine BG.out.mono ?_
      rintro e w1 ⟨rfl, hb1⟩
      have m1 := HM.out.below hb1
      have kb1 := m1.blk []
      have ht := Lib.hid (show w1.there g 0 KB.size from hKB ▸ kb1.there (by rw [show rcells none A0 c0 = hcs _ _ from rfl, hcs_size]; exact Nat.le_add_right 8 3))
      have I1 := Lib.hid (show (Try.prog.info? 115).map (·.size) = some KB.size from hKB ▸ info_h8)
      have O1 := Lib.hid (show KB.all (·.oneCell') = true from hKB ▸ h0_one)
      clear hKB
      have m2 := Mst.putCells (bl := []) (wr := w) [] (h0.l.map W) 0 _ _ m1
      have e2 : setAll (rcells none A0 c0) 0 (h0.l.map W) = hcs h0.l [.bool false, .slice A0 0 c0, .int .i64 0] := set_begun _ _
      rw [e2, ← HKB.out] at m2
      have q8 := ((m2.blk []).cell 8).trans (hcs_rest h0.l [.bool false, .slice A0 0 c0, .int .i64 0] 0)
      have f8 := (m2.blk []).fr 8
      have m3 := m2.put [] 8 (.bool true)
      rw [show (hcs h0.l [.bool false, .slice A0 0 c0, .int .i64 0]).setIfInBounds 8 (.bool true) = rcells (some []) A0 c0 from hcs_setR h0.l _ 0 _] at m3
      have hL : L0 = [] := HL0.out.symm
      have t0 : AdR W0 _ xb xr g [] := ⟨⟨_, hr, ⟨A0, c0, rfl, HS.out, hc1, hc2⟩, m3⟩⟩
      rw [← hL] at t0
      have T0 := Lib.hid t0
      clear t0 hL m1 m2 m3 kb1 hb1 e2
      go_wp2_with (first | refine wpList_store_mid rfl _ _ _ rfl g 0 KB rfl rfl ht.out I1.out O1.out ?_)
      go_wp2
      go_meet
      exact T0.out
  case rest =>
    have T0 := Lib.hid hcut
    clear hcut q8 HM HS HB
    go_wp2
    go_loopg [23] n (fun gk s23 wr => ∃ k : Nat, k + gk = n ∧ s23 = .int .i64 k ∧ AdR W0 wr xb xr g (L0 ++ catP (ps.take k)))
    case atStart => exact ⟨0, by omega, rfl, by simpa [catP] using T0.out⟩
    case round =>
      obtain ⟨k, hk, rfl, ⟨x', hr', ⟨A1, c1, rfl, hs, hc1, hc2⟩, hm⟩⟩ := hrel
      by_cases hlt : k < n
      · obtain ⟨p, hpk⟩ : ∃ p, ps[k]? = some p := ⟨_, List.getElem?_eq_getElem (by have := HN.out; omega)⟩
        have hps := hm.pts (HP.out.sub (fun _ h => List.mem_cons_of_mem _ h) (fun _ h => List.mem_append_right _ h))
        obtain ⟨b, o, rfl, hb, hcell⟩ := hps.at_ (by have := HN.out; omega)
        have c0 := hcell k p hpk
        have hsp := HP.out.2 p (List.mem_of_getElem? hpk)
        have e1 := catP_take hpk
        have e2 := catP_le ps (k + 1)
        have e3 : (catP (ps.take (k + 1))).length = (catP (ps.take k)).length + p.l.length := by rw [e1, List.length_append]
        obtain ⟨p, cp, lp⟩ := p
        unfold Pt.v at c0
        simp only at c0 e3 hsp e1
        obtain ⟨T, hT⟩ : ∃ T, L0 ++ catP (ps.take k) = T := ⟨_, rfl⟩
        have hT2 : L0 ++ catP (ps.take (k + 1)) = T ++ lp := by rw [e1, ← hT, List.append_assoc]
        have hbd : T.length + lp.length ≤ 1000000 := by
          have h1 := congrArg List.length hT2
          simp only [List.length_append] at h1
          have h2 := HLL.out
          have h3 := congrArg List.length HL0.out
          omega
        rw [hT] at hs hm hc1
        simp only [told, Option.getD_some] at hs hc1
        have kb := hm.blk []
        have q9 : wr.cell? ⟨g, 9, none⟩ = some (.slice A1 (restA T).length c1) := (kb.cell 9).trans (hcs_rest (shaA h0 T).l (rtl (some T) A1 c1) 1)
        have q10 : wr.cell? ⟨g, 10, none⟩ = some (.int .i64 (T.length : Nat)) := (kb.cell 10).trans (hcs_rest (shaA h0 T).l (rtl (some T) A1 c1) 2)
        have f10 := kb.fr 10
        have f9 := kb.fr 9
        have m1 := hm.put [] 10 (.int .i64 ((T.length + lp.length : Nat) : Int))
        rw [show (rcells (some T) A1 c1).setIfInBounds 10 (.int .i64 ((T.length + lp.length : Nat) : Int)) = hcs (shaA h0 T).l [.bool true, .slice A1 (restA T).length c1, .int .i64 ((T.length + lp.length : Nat) : Int)] from hcs_setR (shaA h0 T).l (rtl (some T) A1 c1) 2 _] at m1
        rw [Int.natCast_add] at m1
        have M1 := Lib.hid m1
        have HT2 := Lib.hid hT2
        have HSP := Lib.hid hsp
        have HS := Lib.hid hs
        have e0 : (0 : Int) ≤ (T.length : Int) := by omega
        have e4 : (T.length : Int) + lp.length ≤ 1000000 := by omega
        have e5 : (0 : Int) ≤ (lp.length : Int) := by omega
        have HG := Lib.hid (show g < wr.heap.size from kb.lt)
        clear e1 e2 e3 hm hcell hs hT hT2 kb m1 hsp hpk hps
        go_upto_region 9 with fail
        clear q10 f10 c0
        generalize wr.setCell ⟨g, 10, none⟩ (.int .i64 ((T.length : Int) + lp.length)) = w1 at M1 ⊢
        have q9 : w1.cell? ⟨g, 9, none⟩ = some (.slice A1 (restA T).length c1) := ((M1.out.blk []).cell 9).trans (hcs_rest (shaA h0 T).l _ 1)
        have hrl : (restA T).length ≤ T.length := by rw [restA_len]; exact Nat.mod_le _ _
        obtain ⟨X, hX⟩ : ∃ X, restA T ++ lp = X := ⟨_, rfl⟩
        have HX := Lib.hid hX
        have HC := Lib.hid (concat2_step W0 w1.drew _ _ (M1.out.drew) ⟨A1, c1, restA T⟩ ⟨p, cp, lp⟩ (HS.out.sub (fun x h => nomatch h) (fun y h => List.mem_append_left _ h)) (HSP.out.sub (fun x h => List.mem_cons_of_mem _ h) (fun y h => List.mem_append_right _ h)) (by simp only; omega) X hX)
        clear f9 hX
        go_region_with (first
          | (refine HC.out.mono ?_; rintro e w3 ⟨A3, c3, rfl, m3, h3a, h3b⟩; have HA := Lib.hid (all_step W0 w3 _ _ g _ _ A3 c3 _ m3 h3a h3b); clear m3)
          | (refine HA.out.mono ?_; rintro e w4 ⟨A4, c4, rfl, m4, s4, h4a, h4b⟩; have k9 := ((m4.blk []).cell 9).trans (hcs_rest _ _ 1); have f9 := (m4.blk []).fr 9; have M4 := Lib.hid m4; have S4 := Lib.hid s4; clear m4 s4))
        go_wp2
        go_roundg (n - (k + 1))
        case measure => exact meas hk hlt
        case rel => exact ⟨k + 1, meas2 hlt, by go_num, ⟨by
          rw [HT2.out]
          have hA := shaA_append h0 T lp
          rw [HX.out] at hA
          have m5 := M4.out.put [] 9 (.slice A4 (restA X).length c4)
          rw [show ∀ (q : List Wd) (hq : q.length = 8) (a b c d : Value), (hcs q [a, b, c]).setIfInBounds 9 d = hcs q [a, d, c] from fun q hq a b c d => by have := hcs_setR q [a, b, c] 1 d; rw [hq] at this; exact this] at m5
          · refine ⟨_, [⟨5, 1, .slice A3 X.length c3, X.length, by8 X⟩], ⟨A4, c4, rfl, ?_, ?_, h4b⟩, ?_⟩
            · show Src W0 [] _ 1 A4 (restA (T ++ lp)).length (by8 (restA (T ++ lp)))
              rw [hA.2]
              exact S4.out
            · show (restA (T ++ lp)).length ≤ c4
              rw [hA.2]
              exact h4a
            · show Mst W0 _ ((g, 117, hcs (shaA h0 (T ++ lp)).l [.bool true, .slice A4 (restA (T ++ lp)).length c4, .int .i64 ((T ++ lp).length : Nat)]) :: xb) _
              rw [hA.1, hA.2, List.length_append, Int.natCast_add]
              exact m5.sub (List.Sublist.refl _) (List.Sublist.cons_cons _ (List.sublist_append_right _ _))
          · rfl⟩⟩
      · obtain rfl : k = n := by omega
        have ht : ps.take k = ps := List.take_of_length_le (by have := HN.out; omega)
        rw [ht] at hs hm hc1
        have TT := Lib.hid (show RunX W0 wr xb xr g (some (L0 ++ catP ps)) from ⟨_, hr', ⟨A1, c1, rfl, hs, hc1, hc2⟩, hm⟩)
        clear hs hm hc1 ht hk hlt
        go_wp2
        go_ret
        exact ⟨rfl, by rw [HL0.out]; exact TT.out⟩
end Go.Proofs.Ytnbemfceoianiaa

/- Contracts of package digest: Copy, Len, Running.Sum, Sum. -/
namespace Go.Proofs.Ytnbemfceoianiaa
set_option linter.unusedVariables false
open Go.RowKit

theorem info_run : (Try.prog.info? 117).map (·.size) = some 11 := by kernel_rfl
theorem rcells_size (st : Option (List UInt8)) (A : Option Addr) (c : Nat) : (rcells st A c).size = 11 := by
  show (hcs (hw st) (rtl st A c)).size = 11
  rw [hcs_size, hw_len]
  rfl
theorem rcells_one (st : Option (List UInt8)) (A : Option Addr) (c : Nat) : (rcells st A c).all (·.oneCell') = true := by
  rw [Array.all_eq_true_iff_forall_mem]
  intro v hv
  simp only [rcells, hcs, List.mem_toArray, List.mem_append, List.mem_map, rtl] at hv
  rcases hv with ⟨x, _, rfl⟩ | hv
  · rfl
  · simp only [List.mem_cons, List.not_mem_nil, or_false] at hv
    rcases hv with rfl | rfl | rfl <;> rfl
theorem rcells_left (st : Option (List UInt8)) (A : Option Addr) (c : Nat) : (rcells st A c)[9]? = some (.slice A (restA (told st)).length c) := by
  have := hcs_rest (hw st) (rtl st A c) 1
  rw [hw_len] at this
  exact this
theorem rcells_n (st : Option (List UInt8)) (A : Option Addr) (c : Nat) : (rcells st A c)[10]? = some (.int .i64 ((told st).length : Nat)) := by
  have := hcs_rest (hw st) (rtl st A c) 2
  rw [hw_len] at this
  exact this
theorem rcells_setL (st : Option (List UInt8)) (A A' : Option Addr) (c c' : Nat) : (rcells st A c).setIfInBounds 9 (.slice A' (restA (told st)).length c') = rcells st A' c' := by
  have := hcs_setR (hw st) (rtl st A c) 1 (.slice A' (restA (told st)).length c')
  rw [hw_len] at this
  exact this


abbrev Z67 : Array Value := #[.int .u32 0, .int .u32 0, .int .u32 0, .int .u32 0, .int .u32 0, .int .u32 0, .int .u32 0, .int .u32 0, .bool false, .slice none 0 0, .int .i64 0]
theorem Z67_eq : Z67 = rcells none none 0 := rfl
/-- What Copy gives: one more, alike. -/
def CopyPost (W0 : World) (xb : Bl) (xr : List Ro) (st : Option (List UInt8)) (e : Ending) (w' : World) : Prop :=
  ∃ g' x' hr', e = .returned (.pointer (some ⟨g', 0, none⟩)) ∧ RunAt W0 g' st x' hr' ∧ Mst W0 w' (x' :: xb) (hr' ++ xr)
set_option maxRecDepth 100000 in
set_option maxHeartbeats 400000 in
theorem copy_any (W0 w : World) (xb : Bl) (xr : List Ro) (g : Nat) (st : Option (List UInt8)) (x : Nat × TypeId × Array Value) (hr : List Ro) (hR : RunAt W0 g st x hr) (hm : Mst W0 w (x :: xb) (hr ++ xr)) (hl : (told st).length ≤ 1000000) :
    Calls Try.prog 81 #[.pointer (some ⟨g, 0, none⟩)] w (CopyPost W0 (x :: xb) (hr ++ xr) st) := by
  obtain ⟨A, c, rfl, hs, hc1, hc2⟩ := hR
  have kb := hm.blk []
  have q9 := (kb.cell 9).trans (rcells_left st A c)
  have hgw := kb.lt
  obtain ⟨K, hK⟩ : ∃ K, rcells st A c = K := ⟨_, rfl⟩
  have L1 := Lib.hid (show w.rangeAt g 0 K.toList from kb.range fun j v hv => by
    rw [Nat.zero_add, hK]
    simpa using hv)
  have I1 := Lib.hid (show (Try.prog.info? 117).map (·.size) = some K.toList.length by rw [← hK, Array.length_toList, rcells_size]; exact info_run)
  have I2 := Lib.hid (show (Try.prog.info? 117).map (·.size) = some K.size by rw [← hK, rcells_size]; exact info_run)
  have O1 := Lib.hid (show K.all (·.oneCell') = true by rw [← hK]; exact rcells_one _ _ _)
  have S1 := Lib.hid (show Z67.size = K.size by rw [← hK, rcells_size]; rfl)
  have m1 := hm.new 117 Z67
  have K1 := Lib.hid (m1.blk [])
  have m2 := Mst.setRow (bl := []) [] m1 K
  have M2 := Lib.hid m2
  have HS := Lib.hid hs
  have HK := Lib.hid hK
  have E1 := Lib.hid (show K.toList.toArray = K by simp)
  obtain ⟨L, hL⟩ : ∃ L, restA (told st) = L := ⟨_, rfl⟩
  have hlL : L.length ≤ 1000000 := by rw [← hL, restA_len]; have := Nat.mod_le (told st).length 64; omega
  rw [hL] at hs q9 hc1
  have HL := Lib.hid hL
  have q9' : ((w.alloc (.cells Z67 117)).setRow w.heap.size K).cell? ⟨g, 9, none⟩ = some (.slice A L.length c) := by
    rw [(m2.blk [_]).cell 9, ← hL]
    exact rcells_left st A c
  have q9'' := q9'
  have f9 := (m2.blk []).fr 9
  clear hm kb m1 m2 hK hs hL
  go_enter Try.func81, Try.ntmps81
  go_wp2_with (first | refine wpList_load_mid rfl _ _ rfl g 0 rfl K.toList _ L1.out Try.underlying117 rfl I1.out ?_ | refine wpList_store_row rfl _ _ _ rfl w.heap.size K rfl (by rw [← E1.out]; rfl) 117 _ K1.out I2.out S1.out O1.out ?_)
  have hrb : RB ((w.alloc (.cells Z67 117)).setRow w.heap.size K) ((w.alloc (.cells Z67 117)).setRow w.heap.size K).heap.size A L := by
    have := HS.out
    rw [HL.out] at this
    exact M2.out.src (this.sub (fun x h => nomatch h) (fun y h => List.mem_append_left _ h))
  have HC := Lib.hid (clone_any A c L _ hrb hlL)
  clear hrb q9 q9' q9'' f9
  refine HC.out.mono ?_
  rintro e w2 ⟨v, rfl, hf⟩
  have m3 := M2.out.addr hf
  have k9 := ((m3.blk []).cell 9)
  have f9 := (m3.blk []).fr 9
  have k9' : (w2.cell? ⟨w.heap.size, 9, none⟩).isSome = true := by
    rw [k9, ← HK.out, rcells_left]
    rfl
  obtain ⟨old, hold⟩ := Option.isSome_iff_exists.1 k9'
  obtain ⟨A2, c2, rfl, _, hx1, hx2, _⟩ := own_form hf.own
  have hx3 : c2 ≤ 9223372036854775807 := by
    rcases hf.own.2 with ⟨e1, _⟩ | ⟨g', cap, cur, e1, _, _, _, hcap, _⟩
    · simp only [Value.slice.injEq] at e1
      omega
    · simp only [Value.slice.injEq] at e1
      unfold maxLen at hcap
      omega
  have m4 := m3.put [] 9 (.slice A2 L.length c2)
  rw [← HK.out, ← HL.out, rcells_setL] at m4
  have M4 := Lib.hid m4
  have R4 := Lib.hid (show RunAt W0 w.heap.size st (w.heap.size, 117, rcells st A2 c2) [⟨5, 1, .slice A2 L.length c2, L.length, by8 L⟩] from ⟨A2, c2, rfl, by
    rw [HL.out]
    exact (m3.sub (List.nil_sublist _) (List.Sublist.cons_cons _ (List.nil_sublist _))).rowSrc (List.mem_singleton_self _), by rw [HL.out]; exact hx2, hx3⟩)
  have LL := Lib.hid (show (restA (told st)).length = L.length by rw [HL.out])
  clear m3 m4 k9 k9' hf hc1
  go_wp2
  go_ret
  refine ⟨w.heap.size, _, _, rfl, R4.out, ?_⟩
  have := M4.out
  rw [HL.out] at this
  exact this

/-- What is put behind the bytes, with j zeros as yet. -/
def endZ (j : Nat) : List UInt8 := 128 :: List.replicate j 0
theorem endZ_len (j : Nat) : (endZ j).length = j + 1 := by simp [endZ]
theorem endZ_succ (j : Nat) : endZ j ++ [0] = endZ (j + 1) := by simp [endZ, List.replicate_succ']
def endL (n k : Nat) : List UInt8 := endZ (padZ n) ++ (be8 (n * 8)).take k
theorem endL_8 (n : Nat) : endL n 8 = padL n := by
  unfold endL padL endZ
  rw [List.take_of_length_le (by simp [be8])]
  rfl
theorem endL_succ (n k : Nat) (h : k < 8) : endL n k ++ [UInt8.ofNat ((n * 8) >>> (8 * (7 - k)))] = endL n (k + 1) := by
  unfold endL
  have hk : k < (be8 (n * 8)).length := by simpa [be8] using h
  rw [List.take_succ_eq_append_getElem hk, List.append_assoc]
  congr 2
  have h8 : k = 0 ∨ k = 1 ∨ k = 2 ∨ k = 3 ∨ k = 4 ∨ k = 5 ∨ k = 6 ∨ k = 7 := by omega
  rcases h8 with rfl | rfl | rfl | rfl | rfl | rfl | rfl | rfl <;> rfl
theorem padZ_lt (n : Nat) : padZ n < 64 := Nat.mod_lt _ (by decide)

theorem len_byte (n k : Nat) : ((n : Int) * 8 / 2 ^ (8 * (7 - k)) % 256) = ((UInt8.ofNat ((n * 8) >>> (8 * (7 - k)))).toNat : Int) := by
  rw [Nat.shiftRight_eq_div_pow]
  simp
theorem endL_len (n k : Nat) (hk : k ≤ 8) : (endL n k).length = padZ n + 1 + k := by
  simp [endL, endZ_len, be8]
  omega
structure SuR (W0 wr : World) (xb : Bl) (xr : List Ro) (x : Nat × TypeId × Array Value) (hr : List Ro) (v : Value) (l : List UInt8) : Prop where
  m : Mst W0 wr (x :: xb) (⟨5, 1, v, l.length, by8 l⟩ :: (hr ++ xr))
set_option maxRecDepth 100000 in
set_option maxHeartbeats 1000000 in
theorem rsum_any (W0 w : World) (xb : Bl) (xr : List Ro) (g : Nat) (st : Option (List UInt8)) (x : Nat × TypeId × Array Value) (hr : List Ro) (hR : RunAt W0 g st x hr) (hm : Mst W0 w (x :: xb) (hr ++ xr)) (hl : (told st).length ≤ 900000) :
    Calls Try.prog 67 #[.pointer (some ⟨g, 0, none⟩)] w fun e w' => e = .returned (.agg (b8a (sha (told st)))) ∧ Mst W0 w' (x :: xb) (hr ++ xr) := by
  have m1 := (hm.new 27 Y32).perm (List.Perm.swap _ _ _) (List.Perm.refl _)
  have HC := Lib.hid (copy_any W0 _ _ xr g st x hr hR m1 (by omega))
  have hR' := hR
  obtain ⟨A, c, rfl, hs, hc1, hc2⟩ := hR
  have HG := Lib.hid (show g < w.heap.size from (hm.blk []).lt)
  obtain ⟨T, hT⟩ : ∃ T, told st = T := ⟨_, rfl⟩
  have HT := Lib.hid hT
  rw [hT] at hl
  clear hm m1 hs hT
  go_enter Try.func67, Try.ntmps67
  go_wp2_with fail
  refine HC.out.mono ?_
  rintro e w1 ⟨g1, x1, hr1, rfl, hR1, m1⟩
  have HA := Lib.hid (add_any W0 w1 _ _ g1 st ⟨x1, hr1, hR1, m1⟩ none 0 [] (SPts.nil_ _ _ _ _) (by simp) (by rw [HT.out]; simp [catP]; omega))
  clear hR1 m1
  go_wp2_with fail
  refine HA.out.mono ?_
  rintro e w2 ⟨rfl, x2, hr2, hR2, m2⟩
  rw [show told st ++ catP [] = T by rw [HT.out]; simp [catP]] at hR2
  go_upto_region 5 with fail
  obtain ⟨n, hn⟩ : ∃ n, T.length = n := ⟨_, rfl⟩
  rw [hn] at hl
  have HN := Lib.hid hn
  obtain ⟨A2, c2, rfl, hs2, hc3, hc4⟩ := hR2
  have m3 := m2.newrow 5 1 1 1 #[.int .u8 128] (Nat.le_refl _) (by decide) rfl
  have T0 := Lib.hid (show SuR W0 (w2.alloc (.cells #[.int .u8 128] 5)) _ (hr ++ xr) (g1, 117, rcells (some T) A2 c2) hr2 (.slice (some ⟨w2.heap.size, 0, none⟩) 1 1) (endZ 0) from ⟨m3⟩)
  obtain ⟨R, hRR⟩ : ∃ R, (restA T).length = R := ⟨_, rfl⟩
  have HRR := Lib.hid (show R = n % 64 by rw [← hRR, restA_len, hn])
  have hq9 : (rcells (some T) A2 c2)[9]? = some (.slice A2 R c2) := by rw [← hRR]; exact rcells_left (some T) A2 c2
  have HQ9 := Lib.hid hq9
  have HS2 := Lib.hid hs2
  have r0 : (0 : Int) ≤ R := by omega
  have r1 : (R : Int) ≤ 63 := by have := HRR.out; omega
  clear hn m2 m3 hRR hq9 hs2
  go_loopg [4] (padZ n) (fun gk s4 wr => ∃ j : Nat, j + gk = padZ n ∧ SuR W0 wr ((g, 117, rcells st A c) :: (w.heap.size, 27, Y32) :: xb) (hr ++ xr) (g1, 117, rcells (some T) A2 c2) hr2 s4 (endZ j))
  case atStart => exact ⟨0, by omega, T0.out⟩
  case round =>
    obtain ⟨j, hj, ⟨hm⟩⟩ := hrel
    obtain ⟨A4, c4, rfl, _, hx1, hx2, _⟩ := own_form (hm.row [])
    have q9 := ((hm.blk []).cell 9).trans HQ9.out
    have hpz := padZ_lt n
    rw [endZ_len] at hm hx1 hx2 ⊢
    have j0 : (0 : Int) ≤ j := by omega
    have j1 : (j : Int) ≤ 63 := by omega
    have HM := Lib.hid hm
    have HP := Lib.hid (show padZ n = (119 - n % 64) % 64 from rfl)
    by_cases hlt : j < padZ n
    · have ht : (((R : Int) + ((j + 1 : Nat) : Int) + 8) % 64 != 0) = true := by
        have := HRR.out
        have h2 := HP.out
        simp only [bne_iff_ne, ne_eq]
        omega
      clear hm hpz
      go_wp2_with (at_builtin; refine wpList_appM rfl _ _ 26 rfl [] (Mst.alloc HM.out _) el_u8c rfl _ _ 1 1 [.int .u8 0] rfl (Rd.new1 _ #[.int .u8 0] _ rfl) (one1 _ rfl) (by unfold maxLen; omega) (by omega) ?_; intro A' c' w' s2; have S2 := Lib.hid s2; clear s2)
      go_roundg (padZ n - (j + 1))
      case measure => exact meas hj hlt
      case rel => exact ⟨j + 1, meas2 hlt, ⟨by
        have a := S2.out
        rw [show by8 (endZ j) ++ [Value.int .u8 0] = by8 (endZ (j + 1)) by rw [← endZ_succ, by8_append]; rfl] at a
        rw [endZ_len]
        exact a⟩⟩
    · obtain rfl : j = padZ n := by omega
      have ht : (((R : Int) + ((padZ n + 1 : Nat) : Int) + 8) % 64 != 0) = false := by
        have := HRR.out
        have h2 := HP.out
        simp only [bne_eq_false_iff_eq]
        omega
      clear hm hlt hj
      go_wp2_with fail
      have T1 := Lib.hid (show SuR W0 wr ((g, 117, rcells st A c) :: (w.heap.size, 27, Y32) :: xb) (hr ++ xr) (g1, 117, rcells (some T) A2 c2) hr2 (.slice A4 (padZ n + 1) c4) (endL n 0) from ⟨by
        have e0 : endL n 0 = endZ (padZ n) := by simp [endL]
        rw [e0, endZ_len]
        exact HM.out⟩)
      have hn0 : (0 : Int) ≤ n := by omega
      have hn1 : (n : Int) ≤ 900000 := by omega
      have ht2 : (((R : Int) + ((padZ n : Int) + 1) + 8) % 64 != 0) = false := by rw [← ht]; simp
      rw [ht2]
      clear HM hx1 hx2 q9 ht ht2 j0 j1 T0
      go_loopg [4, 5] 8 (fun gk s4 s5 wr => ∃ k : Nat, k + gk = 8 ∧ s5 = .int .i64 (7 - (k : Int)) ∧ SuR W0 wr ((g, 117, rcells st A c) :: (w.heap.size, 27, Y32) :: xb) (hr ++ xr) (g1, 117, rcells (some T) A2 c2) hr2 s4 (endL n k))
      case atStart => exact ⟨0, by omega, rfl, T1.out⟩
      case round =>
        obtain ⟨k, hk, rfl, ⟨hm⟩⟩ := hrel
        obtain ⟨A5, c5, rfl, _, hx1, hx2, _⟩ := own_form (hm.row [])
        have q10 : wr.cell? ⟨g, 10, none⟩ = some (.int .i64 (n : Int)) := by
          rw [(hm.blk [_]).cell 10, rcells_n, HT.out, HN.out]
        have hpz := padZ_lt n
        by_cases hlt : k < 8
        · have hE := endL_succ n k hlt
          rw [endL_len n k (by omega)] at hm hx1 hx2 ⊢
          have hv := len_byte n k
          obtain ⟨B, hB⟩ : ∃ B, UInt8.ofNat ((n * 8) >>> (8 * (7 - k))) = B := ⟨_, rfl⟩
          rw [hB] at hv hE
          have HV := Lib.hid hv
          have HE := Lib.hid hE
          have HM := Lib.hid hm
          have k0 : (0 : Int) ≤ 7 - (k : Int) := by omega
          have k1 : (7 : Int) - (k : Int) ≤ 7 := by omega
          clear hm hE hB hv
          go_wp2_with (at_builtin; refine wpList_appM rfl _ _ 26 rfl [] (Mst.alloc HM.out _) el_u8c rfl _ _ 1 1 [.int .u8 ((n : Int) * 8 / 2 ^ (8 * (7 - k)) % 256)] rfl (Rd.new1 _ #[.int .u8 ((n : Int) * 8 / 2 ^ (8 * (7 - k)) % 256)] _ rfl) (one1 _ rfl) (by unfold maxLen; omega) (by omega) ?_; intro A' c' w' s2; have S2 := Lib.hid s2; clear s2)
          go_roundg (8 - (k + 1))
          case measure => exact meas hk hlt
          case rel => exact ⟨k + 1, meas2 hlt, by go_num, ⟨by
            have a := S2.out
            rw [HV.out, show by8 (endL n k) ++ [Value.int .u8 (B.toNat : Int)] = by8 (endL n (k + 1)) by rw [← HE.out, by8_append]; rfl] at a
            rw [endL_len n (k + 1) (by omega)]
            exact a⟩⟩
        · obtain rfl : k = 8 := by omega
          rw [endL_8] at hm hx1 hx2 ⊢
          have hm1 := hm.newrow 26 1 1 1 #[.slice A5 (padL n).length c5] (Nat.le_refl _) (by decide) rfl
          have hpl : (padL n).length = padZ n + 9 := by rw [← endL_8, endL_len n 8 (by omega)]
          have M' := hm1.sub (List.sublist_cons_self _ _) (List.Sublist.cons_cons _ (List.Sublist.cons_cons _ (List.sublist_append_right hr2 (hr ++ xr))))
          have hps : SPts W0 ((g, 117, rcells st A c) :: (w.heap.size, 27, Y32) :: xb) (⟨26, 1, .slice (some ⟨wr.heap.size, 0, none⟩) 1 1, 1, [.slice A5 (padL n).length c5]⟩ :: ⟨5, 1, .slice A5 (padL n).length c5, (padL n).length, by8 (padL n)⟩ :: (hr ++ xr)) (some ⟨wr.heap.size, 0, none⟩) [⟨A5, c5, padL n⟩] := by
            refine ⟨M'.rowSrc (List.mem_cons_self ..), fun p hp => ?_⟩
            obtain rfl : p = ⟨A5, c5, padL n⟩ := by simpa using hp
            exact M'.rowSrc (List.mem_cons_of_mem _ (List.mem_cons_self ..))
          have hm2 := hm1.perm (List.Perm.refl _) (List.perm_append_comm_assoc [_, _] hr2 (hr ++ xr))
          have HADD := Lib.hid (add_any W0 _ _ _ g1 (some T) ⟨_, hr2, ⟨A2, c2, rfl, HS2.out, hc3, hc4⟩, hm2⟩ _ 1 _ hps (by simp) (by simp only [told, Option.getD_some]; rw [HN.out]; simp [catP]; omega))
          have HT3 := Lib.hid (show told (some T) ++ catP [⟨A5, c5, padL n⟩] = T ++ padL n by simp [catP, told])
          clear hm hm1 hm2 M' hps hlt hk hpl
          go_wp2_with fail
          refine HADD.out.mono ?_
          rintro e w3 ⟨rfl, x3, hr3, hR3, m3⟩
          rw [HT3.out] at hR3
          obtain ⟨A6, c6, rfl, _⟩ := hR3
          have hO := out_any w3 g1 117 _ (shaA h0 (T ++ padL n)) (m3.blk [])
          have HO := Lib.hid hO
          have M3 := Lib.hid m3
          clear m3 hO
          go_wp2_with fail
          refine HO.out.mono ?_
          rintro e w4 ⟨rfl, hb4⟩
          have m4 := M3.out.below hb4
          obtain ⟨K, hK⟩ : ∃ K, outW (shaA h0 (T ++ padL n)) = K := ⟨_, rfl⟩
          have hKl : K.length = 32 := by rw [← hK]; rfl
          have HKs := Lib.hid (show sha (told st) = K by rw [HT.out, ← hK, ← HN.out]; rfl)
          rw [hK]
          have B4 := Lib.hid (m4.blk [_, _])
          have I4 := Lib.hid (show (Try.prog.info? 27).map (·.size) = some (b8a K).size by rw [b8a_size, hKl]; exact info_arr32)
          have S4 := Lib.hid (show Y32.size = (b8a K).size by rw [b8a_size, hKl]; rfl)
          have O4 := Lib.hid (b8a_one K)
          have m5 := Mst.setRow (bl := []) [_, _] m4 (b8a K)
          have M5 := Lib.hid m5
          clear hb4 m4 m5 hK hKl
          go_wp2_with (first | refine wpList_store_row rfl _ _ _ rfl w.heap.size (b8a K) rfl rfl 27 _ B4.out I4.out S4.out O4.out ?_)
          refine bodyPost_ret (results_cell_row rfl _ _ w.heap.size 27 _ (0, 0) _ rfl (setRow_heap _ _ _ _ _ _ B4.out) Try.underlying27 rfl I4.out) rfl ⟨by rw [HKs.out], ?_⟩
          exact (M5.out.sub (List.Sublist.cons _ (List.Sublist.cons_cons _ (List.sublist_cons_self _ _))) ((List.Sublist.cons _ (List.Sublist.cons _ (List.Sublist.refl _))).trans (List.sublist_append_right hr3 _)))
end Go.Proofs.Ytnbemfceoianiaa

/- Contracts of package digest: Sum. -/
namespace Go.Proofs.Ytnbemfceoianiaa
set_option linter.unusedVariables false
open Go.RowKit

theorem Pts.old {w : World} {A : Option Addr} {ps : List Pt} (h : Pts w A ps) (bl : Bl) (ow : List Ro) : SPts w bl ow A ps := ⟨Src.old h.1, fun p hp => Src.old (h.2 p hp)⟩
set_option maxRecDepth 100000 in
set_option maxHeartbeats 400000 in
theorem dsum_any (w : World) (A : Option Addr) (c : Nat) (ps : List Pt) (hp : Pts w A ps) (hn : ps.length ≤ 1000) (hl : (catP ps).length ≤ 900000) :
    Calls Try.prog 68 #[.slice A ps.length c] w fun e w' => e = .returned (.agg (b8a (sha (catP ps)))) ∧ Below w.heap.size w w' := by
  have m0 := ((Mst.start w).new 27 Y32).new 117 Z67
  rw [show (w.alloc (.cells Y32 27)).heap.size = w.heap.size + 1 by simp] at m0
  have hR0 : RunAt w (w.heap.size + 1) none (w.heap.size + 1, 117, Z67) [] := ⟨none, 0, by rw [Z67_eq], Src.nil_ _ _ _ _ _, Nat.le_refl _, by decide⟩
  have HA := Lib.hid (add_any w _ _ [] (w.heap.size + 1) none ⟨_, [], hR0, m0⟩ A c ps (hp.old _ _) hn (by show 0 + _ ≤ _; omega))
  clear m0 hR0
  obtain ⟨n, hN⟩ : ∃ n, ps.length = n := ⟨_, rfl⟩
  rw [hN] at HA ⊢
  clear hN hp hn
  go_enter Try.func68, Try.ntmps68
  go_wp2_with fail
  refine HA.out.mono ?_
  rintro e w1 ⟨rfl, x1, hr1, hR1, m1⟩
  rw [show told none ++ catP ps = catP ps from rfl] at hR1
  have HS := Lib.hid (rsum_any w w1 _ [] (w.heap.size + 1) _ x1 hr1 hR1 m1 hl)
  clear hR1 m1
  go_wp2_with fail
  refine HS.out.mono ?_
  rintro e w2 ⟨rfl, m2⟩
  obtain ⟨K, hK⟩ : ∃ K, sha (catP ps) = K := ⟨_, rfl⟩
  have hKl : K.length = 32 := by rw [← hK]; rfl
  rw [show told (some (catP ps)) = catP ps from rfl, hK]
  have HKs := Lib.hid hK
  have B4 := Lib.hid (m2.blk [_])
  have I4 := Lib.hid (show (Try.prog.info? 27).map (·.size) = some (b8a K).size by rw [b8a_size, hKl]; exact info_arr32)
  have S4 := Lib.hid (show Y32.size = (b8a K).size by rw [b8a_size, hKl]; rfl)
  have O4 := Lib.hid (b8a_one K)
  have m5 := Mst.setRow (bl := []) [_] m2 (b8a K)
  have M5 := Lib.hid m5
  clear m2 m5 hK hKl
  go_wp2_with (first | refine wpList_store_row rfl _ _ _ rfl w.heap.size (b8a K) rfl rfl 27 _ B4.out I4.out S4.out O4.out ?_)
  exact bodyPost_ret (results_cell_row rfl _ _ w.heap.size 27 _ (0, 0) _ rfl (setRow_heap _ _ _ _ _ _ B4.out) Try.underlying27 rfl I4.out) rfl ⟨by rw [HKs.out], M5.out.bel⟩
end Go.Proofs.Ytnbemfceoianiaa

/- A nil running digest; an append in a drawn region behind a guard that holds. -/
namespace Go.Proofs.Ytnbemfceoianiaa
set_option linter.unusedVariables false
open Go.RowKit

section
variable {P : Program} {w W : World} {bl : List (Nat × TypeId × Array Value)}
theorem step_appW {ops : Array Oper} {o : Oper} {a : Act} {K : Act → World → Prop} {Q : Exit → Act → World → Prop} {E : Prop} (hw : Region.wanted o (yielded ops a.tmps) = true) (s x : Operand) (t : TypeId)
    (ho : o.op = .call { callee := .builtin .append, args := #[s, x], argTypes := #[t, t] })
    (pre : List Ro) {post : List Ro} {e : TypeId} {size n bytes : Nat} {v : Value} {xs : List Value} (hm : Mst W w bl (pre ++ ⟨e, size, v, n, xs⟩ :: post)) (hE : El P t e size bytes) (hs : a.eval s = v)
    (B : Nat) (A : Option Addr) (m c : Nat) (news : List Value) (hx : a.eval x = .slice A m c) (hr : Rd w B size A m news) (h1 : ∀ u ∈ news, u.oneCell' = true)
    (h63 : n + m ≤ maxLen) (hbytes : (n + m) * bytes ≤ 140737488355328)
    (h : ∀ A' c' w', Mst W w' bl (pre ++ ⟨e, size, .slice A' (n + m) c', n + m, xs ++ news⟩ :: post) → K (a.put o.dst (.slice A' (n + m) c')) w') :
    if Region.wanted o (yielded ops a.tmps) = true then Oper.wp P o a w K Q else E := by
  obtain ⟨ht, ⟨i, z, hi, hz, hsize, hby, hzs⟩, hp⟩ := hE
  rw [if_pos hw]
  exact wp_app w s x t ho W.heap.size e i z size bytes ht hi hz hsize hby hzs hp v n xs hs (hm.row pre) B A m c news hx hr h1 h63 hbytes hm.bel.size fun A' c' w' h2 h3 h4 => h A' c' w' (hm.app pre h3 h2 h4)
end

theorem add_nil (v : Value) (w : World) : Calls Try.prog 65 #[.pointer none, v] w fun e w' => e = .returned (.pointer none) ∧ w' = w := by
  go_enter Try.func65, Try.ntmps65
  go_wp2
  go_ret
  exact ⟨rfl, rfl⟩
theorem copy_nil (w : World) : Calls Try.prog 81 #[.pointer none] w fun e w' => e = .returned (.pointer none) ∧ w' = w := by
  go_enter Try.func81, Try.ntmps81
  go_wp2
  go_ret
  exact ⟨rfl, rfl⟩
theorem rsum_nil (w : World) : Calls Try.prog 67 #[.pointer none] w fun e w' => e = .returned (.agg (b8a (sha []))) ∧ Below w.heap.size w w' := by
  have hD := dsum_any (w.alloc (.cells Y32 27)) none 0 [] ⟨Rd.nil_ _ _ _ _, by simp⟩ (by simp) (by simp [catP])
  rw [show catP [] = [] from rfl] at hD
  obtain ⟨K, hK⟩ : ∃ K, sha [] = K := ⟨_, rfl⟩
  have hKl : K.length = 32 := by rw [← hK]; rfl
  rw [hK] at hD ⊢
  have HD := Lib.hid hD
  clear hD hK
  have m1 := (Mst.start w).new 27 Y32
  have M1 := Lib.hid m1
  clear m1
  go_enter Try.func67, Try.ntmps67
  go_wp2_with fail
  refine HD.out.mono ?_
  rintro e w2 ⟨rfl, hb2⟩
  have m2 := M1.out.below hb2
  have B4 := Lib.hid (m2.blk [])
  have I4 := Lib.hid (show (Try.prog.info? 27).map (·.size) = some (b8a K).size by rw [b8a_size, hKl]; exact info_arr32)
  have S4 := Lib.hid (show Y32.size = (b8a K).size by rw [b8a_size, hKl]; rfl)
  have O4 := Lib.hid (b8a_one K)
  have m5 := Mst.setRow (bl := []) [] m2 (b8a K)
  have M5 := Lib.hid m5
  clear m2 m5 hKl hb2
  go_wp2_with (first | refine wpList_store_row rfl _ _ _ rfl w.heap.size (b8a K) rfl rfl 27 _ B4.out I4.out S4.out O4.out ?_)
  exact bodyPost_ret (results_cell_row rfl _ _ w.heap.size 27 _ (0, 0) _ rfl (setRow_heap _ _ _ _ _ _ B4.out) Try.underlying27 rfl I4.out) rfl ⟨rfl, M5.out.bel⟩
end Go.Proofs.Ytnbemfceoianiaa
