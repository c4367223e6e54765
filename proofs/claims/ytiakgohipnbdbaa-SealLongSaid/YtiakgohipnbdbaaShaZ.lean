/- SHA-256 over blocks of zeros, by numbers: what the kernel reckons quickly. -/
import Derived.Test.YtiakgohipnbdbaaShaA
import Derived.KernelRfl
namespace Go.Proofs.Ytiakgohipnbdbaa
set_option linter.unusedVariables false
set_option linter.unusedSimpArgs false

def fo {α : Type} (x : Nat) (f : Nat → α) : α := match x with
  | 0 => f 0
  | n + 1 => f (Nat.succ n)
theorem fo_eq {α : Type} (x : Nat) (f : Nat → α) : fo x f = f x := by cases x <;> rfl
def rN (x n m : Nat) : Nat := Nat.lor (Nat.shiftRight x n) (Nat.mod (Nat.shiftLeft x m) 4294967296)
abbrev Fn8 := Nat → Nat → Nat → Nat → Nat → Nat → Nat → Nat → List Nat
def rnd : List Nat → Fn8 → Fn8
  | [], K, a, b, c, d, e, f, g, h => K a b c d e f g h
  | k :: ks, K, a, b, c, d, e, f, g, h =>
    fo (Nat.add (Nat.add (Nat.add h (Nat.xor (Nat.xor (rN e 6 26) (rN e 11 21)) (rN e 25 7))) (Nat.xor (Nat.land e f) (Nat.land (Nat.sub 4294967295 e) g))) k) fun o =>
    fo (Nat.mod (Nat.add d o) 4294967296) fun e' =>
    fo (Nat.mod (Nat.add o (Nat.add (Nat.xor (Nat.xor (rN a 2 30) (rN a 13 19)) (rN a 22 10)) (Nat.xor (Nat.xor (Nat.land a b) (Nat.land a c)) (Nat.land b c)))) 4294967296) fun a' =>
    rnd ks K a' a b c e' e f g
def kLn : List Nat := [1116352408, 1899447441, 3049323471, 3921009573, 961987163, 1508970993, 2453635748, 2870763221, 3624381080, 310598401, 607225278, 1426881987, 1925078388, 2162078206, 2614888103, 3248222580, 3835390401, 4022224774, 264347078, 604807628, 770255983, 1249150122, 1555081692, 1996064986, 2554220882, 2821834349, 2952996808, 3210313671, 3336571891, 3584528711, 113926993, 338241895, 666307205, 773529912, 1294757372, 1396182291, 1695183700, 1986661051, 2177026350, 2456956037, 2730485921, 2820302411, 3259730800, 3345764771, 3516065817, 3600352804, 4094571909, 275423344, 430227734, 506948616, 659060556, 883997877, 958139571, 1322822218, 1537002063, 1747873779, 1955562222, 2024104815, 2227730452, 2361852424, 2428436474, 2756734187, 3204031479, 3329325298]
def itZ : Nat → Fn8
  | 0, a, b, c, d, e, f, g, h => [a, b, c, d, e, f, g, h]
  | n + 1, a, b, c, d, e, f, g, h => rnd kLn (fun a' b' c' d' e' f' g' h' =>
    fo (Nat.mod (Nat.add a a') 4294967296) fun a2 => fo (Nat.mod (Nat.add b b') 4294967296) fun b2 => fo (Nat.mod (Nat.add c c') 4294967296) fun c2 => fo (Nat.mod (Nat.add d d') 4294967296) fun d2 =>
    fo (Nat.mod (Nat.add e e') 4294967296) fun e2 => fo (Nat.mod (Nat.add f f') 4294967296) fun f2 => fo (Nat.mod (Nat.add g g') 4294967296) fun g2 => fo (Nat.mod (Nat.add h h') 4294967296) fun h2 =>
    itZ n a2 b2 c2 d2 e2 f2 g2 h2) a b c d e f g h
def on8 {α : Type} (s : H8) (F : Nat → Nat → Nat → Nat → Nat → Nat → Nat → Nat → α) : α := F s.a.toNat s.b.toNat s.c.toNat s.d.toNat s.e.toNat s.f.toNat s.g.toNat s.h.toNat

theorem rr_N (x : Wd) (n m : Nat) (h : 32 - n = m) : (rr x n).toNat = rN x.toNat n m := by
  subst h
  simp only [rr, rN, BitVec.toNat_or, BitVec.toNat_ushiftRight, BitVec.toNat_shiftLeft]
  rfl
theorem us1_N (x : Wd) : (usig1 x).toNat = Nat.xor (Nat.xor (rN x.toNat 6 26) (rN x.toNat 11 21)) (rN x.toNat 25 7) := by
  simp only [usig1, BitVec.toNat_xor, rr_N x 6 26 rfl, rr_N x 11 21 rfl, rr_N x 25 7 rfl]
  rfl
theorem us0_N (x : Wd) : (usig0 x).toNat = Nat.xor (Nat.xor (rN x.toNat 2 30) (rN x.toNat 13 19)) (rN x.toNat 22 10) := by
  simp only [usig0, BitVec.toNat_xor, rr_N x 2 30 rfl, rr_N x 13 19 rfl, rr_N x 22 10 rfl]
  rfl
theorem ch_N (x y z : Wd) : (chW x y z).toNat = Nat.xor (Nat.land x.toNat y.toNat) (Nat.land (Nat.sub 4294967295 x.toNat) z.toNat) := by
  simp only [chW, BitVec.toNat_xor, BitVec.toNat_and, BitVec.toNat_not]
  rfl
theorem mj_N (x y z : Wd) : (mjW x y z).toNat = Nat.xor (Nat.xor (Nat.land x.toNat y.toNat) (Nat.land x.toNat z.toNat)) (Nat.land y.toNat z.toNat) := by
  simp only [mjW, BitVec.toNat_xor, BitVec.toNat_and]
  rfl
theorem add_N (x y : Wd) : (x + y).toNat = (x.toNat + y.toNat) % 4294967296 := BitVec.toNat_add x y
theorem e_N (h S c k d : Nat) : (d + ((((h + S) % 4294967296 + c) % 4294967296 + k) % 4294967296 + 0) % 4294967296) % 4294967296 = Nat.mod (Nat.add d (Nat.add (Nat.add (Nat.add h S) c) k)) 4294967296 := by
  show _ = (d + (h + S + c + k)) % 4294967296
  omega
theorem a_N (h S c k T m : Nat) : (((((h + S) % 4294967296 + c) % 4294967296 + k) % 4294967296 + 0) % 4294967296 + (T + m) % 4294967296) % 4294967296 = Nat.mod (Nat.add (Nat.add (Nat.add (Nat.add h S) c) k) (Nat.add T m)) 4294967296 := by
  show _ = ((h + S + c + k) + (T + m)) % 4294967296
  omega
theorem rnd_step (k : Wd) (ks : List Nat) (K : Fn8) (s : H8) : on8 s (rnd (k.toNat :: ks) K) = on8 (round1 s k 0) (rnd ks K) := by
  obtain ⟨a, b, c, d, e, f, g, h⟩ := s
  simp only [on8, rnd, fo_eq, round1, add_N, us1_N, us0_N, ch_N, mj_N, show ((0 : Wd).toNat) = 0 from rfl]
  rw [e_N, a_N]
theorem rnd_all (ks : List Wd) (K : Fn8) (s : H8) : on8 s (rnd (ks.map (·.toNat)) K) = on8 (ks.foldl (fun s k => round1 s k 0) s) K := by
  induction ks generalizing s with
  | nil => rfl
  | cons k ks ih => rw [List.map_cons, rnd_step, ih]; rfl
theorem kLn_eq : kLn = kTab.map (·.toNat) := by decide
theorem spread_zero : ∀ k, k ≤ 64 → spreadK (List.replicate 64 0) k = List.replicate k 0
  | 0, _ => rfl
  | k + 1, h => by
    have ih := spread_zero k (by omega)
    have hz : ∀ j, (List.replicate k (0 : Wd)).getD j 0 = 0 := fun j => by
      rw [List.getD_eq_getElem?_getD, List.getElem?_replicate]
      split <;> rfl
    have hb : ∀ i, wordB (List.replicate 64 0) i = 0 := fun i => by
      have hg : ∀ j, (List.replicate 64 (0 : UInt8)).getD j 0 = 0 := fun j => by
        rw [List.getD_eq_getElem?_getD, List.getElem?_replicate]
        split <;> rfl
      simp only [wordB, hg]
      rfl
    have hif : (if k < 16 then wordB (List.replicate 64 0) (4 * k) else (List.replicate k (0 : Wd)).getD (k - 16) 0 + lsig0 ((List.replicate k (0 : Wd)).getD (k - 15) 0) + (List.replicate k (0 : Wd)).getD (k - 7) 0 + lsig1 ((List.replicate k (0 : Wd)).getD (k - 2) 0)) = 0 := by
      split
      · exact hb _
      · simp only [hz]
        rfl
    rw [spreadK, ih, hif]
    exact (List.replicate_succ').symm
theorem rounds_zero (s : H8) : ∀ k, k ≤ 64 → roundsK (List.replicate 64 0) s k = (kTab.take k).foldl (fun s k => round1 s k 0) s
  | 0, _ => rfl
  | k + 1, h => by
    have ih := rounds_zero s k (by omega)
    have hz : (List.replicate 64 (0 : Wd)).getD k 0 = 0 := by
      rw [List.getD_eq_getElem?_getD, List.getElem?_replicate]
      split <;> rfl
    have hk : kTab[k]? = some (kTab.getD k 0) := by
      rw [List.getD_eq_getElem?_getD, List.getElem?_eq_getElem (by rw [kTab_len]; omega)]
      rfl
    rw [roundsK, ih, hz, List.take_add_one, hk, List.foldl_append]
    rfl
def z64L : List UInt8 := List.replicate 64 0
theorem mix_zero (s : H8) : mixW s z64L = s.add (kTab.foldl (fun s k => round1 s k 0) s) := by
  rw [mixW, z64L, spread_zero 64 (Nat.le_refl _), rounds_zero s 64 (Nat.le_refl _), List.take_of_length_le (by rw [kTab_len]; exact Nat.le_refl _)]
/-- n blocks of zeros. -/
def zN (s : H8) : Nat → H8
  | 0 => s
  | n + 1 => zN (mixW s z64L) n
def L8 (s : H8) : List Nat := [s.a.toNat, s.b.toNat, s.c.toNat, s.d.toNat, s.e.toNat, s.f.toNat, s.g.toNat, s.h.toNat]
theorem itZ_eq (n : Nat) (s : H8) : on8 s (itZ n) = L8 (zN s n) := by
  induction n generalizing s with
  | zero => rfl
  | succ n ih =>
    have h1 : on8 s (itZ (n + 1)) = on8 s (fun a b c d e f g h => rnd kLn (fun a' b' c' d' e' f' g' h' => itZ n ((a + a') % 4294967296) ((b + b') % 4294967296) ((c + c') % 4294967296) ((d + d') % 4294967296) ((e + e') % 4294967296) ((f + f') % 4294967296) ((g + g') % 4294967296) ((h + h') % 4294967296)) a b c d e f g h) := by
      simp only [on8, itZ, fo_eq]
      rfl
    rw [h1, zN, ← ih (mixW s z64L), mix_zero, kLn_eq]
    have h2 := rnd_all kTab (fun a' b' c' d' e' f' g' h' => itZ n ((s.a.toNat + a') % 4294967296) ((s.b.toNat + b') % 4294967296) ((s.c.toNat + c') % 4294967296) ((s.d.toNat + d') % 4294967296) ((s.e.toNat + e') % 4294967296) ((s.f.toNat + f') % 4294967296) ((s.g.toNat + g') % 4294967296) ((s.h.toNat + h') % 4294967296)) s
    generalize List.foldl _ s kTab = X at h2 ⊢
    generalize kTab.map _ = ks at h2 ⊢
    have h3 : on8 X (fun a' b' c' d' e' f' g' h' => itZ n ((s.a.toNat + a') % 4294967296) ((s.b.toNat + b') % 4294967296) ((s.c.toNat + c') % 4294967296) ((s.d.toNat + d') % 4294967296) ((s.e.toNat + e') % 4294967296) ((s.f.toNat + f') % 4294967296) ((s.g.toNat + g') % 4294967296) ((s.h.toNat + h') % 4294967296)) = on8 (s.add X) (itZ n) := by
      simp only [on8, H8.add, add_N]
    rw [← h3, ← h2]
    simp only [on8]
theorem L8_inj {s t : H8} (h : L8 s = L8 t) : s = t := by
  obtain ⟨a, b, c, d, e, f, g, i⟩ := s
  obtain ⟨a', b', c', d', e', f', g', i'⟩ := t
  simp only [L8, List.cons.injEq, BitVec.toNat_inj] at h
  obtain ⟨rfl, rfl, rfl, rfl, rfl, rfl, rfl, rfl, _⟩ := h
  rfl
theorem restA_nil {l : List UInt8} {q : Nat} (h : l.length = 64 * q) : restA l = [] := by
  rw [restA, h, Nat.mul_div_cancel_left _ (by decide), ← h, List.drop_length]
theorem shaA_one (s : H8) {l : List UInt8} (h : l.length = 64) : shaA s l = mixW s l := by
  rw [shaA_step s l (by omega), List.take_of_length_le (by omega), shaA_end _ _ (by rw [List.length_drop]; omega)]
theorem shaA_zero (s : H8) (n : Nat) : shaA s (List.replicate (64 * n) 0) = zN s n := by
  induction n generalizing s with
  | zero => rfl
  | succ n ih =>
    rw [shaA_step s _ (by rw [List.length_replicate]; omega), List.take_replicate, List.drop_replicate, zN, ← ih]
    have e1 : min 64 (64 * (n + 1)) = 64 := by omega
    have e2 : 64 * (n + 1) - 64 = 64 * n := by omega
    rw [e1, e2]
    rfl
/-- Two blocks, blocks of zeros, and a last block. -/
theorem shaA_chain (s : H8) (b0 b1 t : List UInt8) (n : Nat) (h0 : b0.length = 64) (h1 : b1.length = 64) (ht : t.length = 64) : shaA s (b0 ++ (b1 ++ (List.replicate (64 * n) 0 ++ t))) = mixW (zN (mixW (mixW s b0) b1) n) t := by
  rw [(shaA_append s b0 _).1, shaA_one s h0, restA_nil (q := 1) (by omega), List.nil_append, (shaA_append _ b1 _).1, shaA_one _ h1, restA_nil (q := 1) (by omega), List.nil_append, (shaA_append _ (List.replicate (64 * n) 0) _).1, shaA_zero, restA_nil (q := n) (by simp), List.nil_append, shaA_one _ ht]
end Go.Proofs.Ytiakgohipnbdbaa
