/- SHA-256 in plain words, over words of 32 bits; nothing here names the program. -/
import Derived.Test.YthnaobolmgcclaaBase
namespace Go.Proofs.Ythnaobolmgcclaa
set_option linter.unusedVariables false

abbrev Wd := BitVec 32
def rr (x : Wd) (n : Nat) : Wd := x >>> n ||| x <<< (32 - n)
def lsig0 (x : Wd) : Wd := rr x 7 ^^^ rr x 18 ^^^ x >>> 3
def lsig1 (x : Wd) : Wd := rr x 17 ^^^ rr x 19 ^^^ x >>> 10
def usig0 (x : Wd) : Wd := rr x 2 ^^^ rr x 13 ^^^ rr x 22
def usig1 (x : Wd) : Wd := rr x 6 ^^^ rr x 11 ^^^ rr x 25
def chW (x y z : Wd) : Wd := (x &&& y) ^^^ (~~~x &&& z)
def mjW (x y z : Wd) : Wd := (x &&& y) ^^^ (x &&& z) ^^^ (y &&& z)
def kTab : List Wd := [0x428a2f98, 0x71374491, 0xb5c0fbcf, 0xe9b5dba5, 0x3956c25b, 0x59f111f1, 0x923f82a4, 0xab1c5ed5,
  0xd807aa98, 0x12835b01, 0x243185be, 0x550c7dc3, 0x72be5d74, 0x80deb1fe, 0x9bdc06a7, 0xc19bf174,
  0xe49b69c1, 0xefbe4786, 0x0fc19dc6, 0x240ca1cc, 0x2de92c6f, 0x4a7484aa, 0x5cb0a9dc, 0x76f988da,
  0x983e5152, 0xa831c66d, 0xb00327c8, 0xbf597fc7, 0xc6e00bf3, 0xd5a79147, 0x06ca6351, 0x14292967,
  0x27b70a85, 0x2e1b2138, 0x4d2c6dfc, 0x53380d13, 0x650a7354, 0x766a0abb, 0x81c2c92e, 0x92722c85,
  0xa2bfe8a1, 0xa81a664b, 0xc24b8b70, 0xc76c51a3, 0xd192e819, 0xd6990624, 0xf40e3585, 0x106aa070,
  0x19a4c116, 0x1e376c08, 0x2748774c, 0x34b0bcb5, 0x391c0cb3, 0x4ed8aa4a, 0x5b9cca4f, 0x682e6ff3,
  0x748f82ee, 0x78a5636f, 0x84c87814, 0x8cc70208, 0x90befffa, 0xa4506ceb, 0xbef9a3f7, 0xc67178f2]
theorem kTab_len : kTab.length = 64 := rfl

/-- The eight words. -/
structure H8 where
  a : Wd
  b : Wd
  c : Wd
  d : Wd
  e : Wd
  f : Wd
  g : Wd
  h : Wd
def H8.l (s : H8) : List Wd := [s.a, s.b, s.c, s.d, s.e, s.f, s.g, s.h]
theorem H8.l_len (s : H8) : s.l.length = 8 := rfl
def h0 : H8 := ⟨0x6a09e667, 0xbb67ae85, 0x3c6ef372, 0xa54ff53a, 0x510e527f, 0x9b05688c, 0x1f83d9ab, 0x5be0cd19⟩

/-- Four bytes as a word. -/
def wordOf (p q r s : UInt8) : Wd := BitVec.ofNat 32 (p.toNat * 16777216 + q.toNat * 65536 + r.toNat * 256 + s.toNat)
def wordB (b : List UInt8) (i : Nat) : Wd := wordOf (b.getD i 0) (b.getD (i + 1) 0) (b.getD (i + 2) 0) (b.getD (i + 3) 0)
/-- The words of the rounds, so far as k of them. -/
def spreadK (b : List UInt8) : Nat → List Wd
  | 0 => []
  | k + 1 => spreadK b k ++ [if k < 16 then wordB b (4 * k) else (spreadK b k).getD (k - 16) 0 + lsig0 ((spreadK b k).getD (k - 15) 0) + (spreadK b k).getD (k - 7) 0 + lsig1 ((spreadK b k).getD (k - 2) 0)]
theorem spreadK_len (b : List UInt8) (k : Nat) : (spreadK b k).length = k := by
  induction k with
  | zero => rfl
  | succ k ih => simp [spreadK, ih]

/-- One round. -/
def round1 (s : H8) (k w : Wd) : H8 :=
  let one := s.h + usig1 s.e + chW s.e s.f s.g + k + w
  let two := usig0 s.a + mjW s.a s.b s.c
  ⟨one + two, s.a, s.b, s.c, s.d + one, s.e, s.f, s.g⟩
def roundsK (ws : List Wd) (s : H8) : Nat → H8
  | 0 => s
  | k + 1 => round1 (roundsK ws s k) (kTab.getD k 0) (ws.getD k 0)
def H8.add (s t : H8) : H8 := ⟨s.a + t.a, s.b + t.b, s.c + t.c, s.d + t.d, s.e + t.e, s.f + t.f, s.g + t.g, s.h + t.h⟩
/-- A block into the words. -/
def mixW (s : H8) (b : List UInt8) : H8 := s.add (roundsK (spreadK b 64) s 64)
/-- n blocks. -/
def shaN (s : H8) (l : List UInt8) : Nat → H8
  | 0 => s
  | n + 1 => shaN (mixW s (l.take 64)) (l.drop 64) n
/-- All whole blocks of l, and what is left. -/
def shaA (s : H8) (l : List UInt8) : H8 := shaN s l (l.length / 64)
def restA (l : List UInt8) : List UInt8 := l.drop (64 * (l.length / 64))
theorem shaA_step (s : H8) (l : List UInt8) (h : 64 ≤ l.length) : shaA s l = shaA (mixW s (l.take 64)) (l.drop 64) := by
  unfold shaA
  have e : l.length / 64 = (l.drop 64).length / 64 + 1 := by simp only [List.length_drop]; omega
  rw [e]
  rfl
theorem restA_step (l : List UInt8) (h : 64 ≤ l.length) : restA l = restA (l.drop 64) := by
  unfold restA
  rw [List.drop_drop]
  congr 1
  simp only [List.length_drop]
  omega
theorem shaA_end (s : H8) (l : List UInt8) (h : l.length < 64) : shaA s l = s := by
  unfold shaA
  rw [Nat.div_eq_of_lt h]
  rfl
theorem restA_end (l : List UInt8) (h : l.length < 64) : restA l = l := by
  unfold restA
  rw [Nat.div_eq_of_lt h]
  rfl
theorem restA_lt (l : List UInt8) : (restA l).length < 64 := by
  unfold restA
  simp only [List.length_drop]
  omega
theorem restA_len (l : List UInt8) : (restA l).length = l.length % 64 := by
  unfold restA
  simp only [List.length_drop]
  omega
/-- Piece by piece. -/
theorem shaA_append (s : H8) (a b : List UInt8) : shaA s (a ++ b) = shaA (shaA s a) (restA a ++ b) ∧ restA (a ++ b) = restA (restA a ++ b) := by
  obtain ⟨n, hn⟩ : ∃ n, a.length / 64 = n := ⟨_, rfl⟩
  induction n generalizing s a with
  | zero =>
    have h : a.length < 64 := by omega
    rw [shaA_end s a h, restA_end a h]
    exact ⟨rfl, rfl⟩
  | succ n ih =>
    have h : 64 ≤ a.length := by omega
    rw [shaA_step s a h, restA_step a h, shaA_step s (a ++ b) (by simp; omega), restA_step (a ++ b) (by simp; omega)]
    have e1 : (a ++ b).take 64 = a.take 64 := List.take_append_of_le_length h
    have e2 : (a ++ b).drop 64 = a.drop 64 ++ b := List.drop_append_of_le_length h
    rw [e1, e2]
    exact ih (mixW s (a.take 64)) (a.drop 64) (by simp only [List.length_drop]; omega)
/-- What stands behind all bytes. -/
def be8 (n : Nat) : List UInt8 := [UInt8.ofNat (n >>> 56), UInt8.ofNat (n >>> 48), UInt8.ofNat (n >>> 40), UInt8.ofNat (n >>> 32), UInt8.ofNat (n >>> 24), UInt8.ofNat (n >>> 16), UInt8.ofNat (n >>> 8), UInt8.ofNat n]
def padZ (n : Nat) : Nat := (119 - n % 64) % 64
def padL (n : Nat) : List UInt8 := 128 :: (List.replicate (padZ n) 0 ++ be8 (n * 8))
/-- The words' bytes. -/
def be4 (x : Wd) : List UInt8 := [UInt8.ofNat (x.toNat >>> 24), UInt8.ofNat (x.toNat >>> 16), UInt8.ofNat (x.toNat >>> 8), UInt8.ofNat x.toNat]
def outW (s : H8) : List UInt8 := be4 s.a ++ (be4 s.b ++ (be4 s.c ++ (be4 s.d ++ (be4 s.e ++ (be4 s.f ++ (be4 s.g ++ be4 s.h))))))
/-- The digest. -/
def sha (l : List UInt8) : List UInt8 := outW (shaA h0 (l ++ padL l.length))
theorem sha_len (l : List UInt8) : (sha l).length = 32 := rfl
end Go.Proofs.Ythnaobolmgcclaa
