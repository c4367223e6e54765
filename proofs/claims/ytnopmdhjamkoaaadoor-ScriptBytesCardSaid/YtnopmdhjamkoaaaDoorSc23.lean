/- Scripts as bytes: plain facts. -/
import Derived.Test.YtnopmdhjamkoaaaDoorSc11
import Derived.Test.YtnopmdhjamkoaaaDoorWireB
import Derived.Test.YtnopmdhjamkoaaaDoorRdL
import Derived.Test.YtnopmdhjamkoaaaDoorReg
namespace Go.Proofs.YtnopmdhjamkoaaaDoor
set_option linter.unusedVariables false
set_option linter.unusedSimpArgs false
open Go.RowKit

/-- A step's bytes; its fields. -/
def enc1 (f : Sb) : List UInt8 := numB 1 f.k ++ (numB 2 f.who ++ (numB 4 f.n ++ (numB 2 (f.l.length : Int) ++ f.l)))
def stF (f : Sb) : List Fd := [nf 0 f.k, nf 1 f.who, nf 2 f.n, bf f.A f.c f.l]
def encS (N : Nat) (fs : List Sb) : List UInt8 := numB 1 (N : Int) ++ fs.flatMap enc1
def catF (fs : List Fd) : List UInt8 := fs.flatMap fun f => outB f.s f.n f.l
theorem catF_stF (f : Sb) : catF (stF f) = enc1 f := by
  simp [catF, stF, enc1, nf, bf, outB, widB]
theorem scC_ok31 {k who n : Int} {len : Nat} (h : scC k who n len = 0) : 0 ≤ k ∧ k < 11 ∧ 0 ≤ who ∧ who ≤ 65535 ∧ 0 ≤ n ∧ n ≤ 2147483647 ∧ len ≤ 400 := by
  unfold scC at h
  split at h
  · omega
  split at h
  · omega
  split at h
  · omega
  split at h
  · omega
  omega
theorem chkn0 {n : Int} (h0 : 0 ≤ n) (h1 : n ≤ 255) : chkB (nf 0 n).s (nf 0 n).n (nf 0 n).l.length = 0 := by
  show chkB 0 n 0 = 0
  unfold chkB
  rw [if_neg (by omega), if_neg (by omega), if_neg (by omega), if_neg (by omega), if_neg (by omega), if_pos rfl, if_neg (by omega)]
theorem chkn1 {n : Int} (h0 : 0 ≤ n) (h1 : n ≤ 65535) : chkB (nf 1 n).s (nf 1 n).n (nf 1 n).l.length = 0 := by
  show chkB 1 n 0 = 0
  unfold chkB
  rw [if_neg (by omega), if_neg (by omega), if_neg (by omega), if_neg (by omega), if_neg (by omega), if_neg (by omega), if_pos rfl, if_neg (by omega)]
theorem chkn2 {n : Int} (h0 : 0 ≤ n) (h1 : n ≤ 4294967295) : chkB (nf 2 n).s (nf 2 n).n (nf 2 n).l.length = 0 := by
  show chkB 2 n 0 = 0
  unfold chkB
  rw [if_neg (by omega), if_neg (by omega), if_neg (by omega), if_neg (by omega), if_neg (by omega), if_neg (by omega), if_neg (by omega), if_neg (by omega)]
theorem chkn4 (A : Option Addr) (c : Nat) {l : List UInt8} (h : l.length ≤ 512) : chkB (bf A c l).s (bf A c l).n (bf A c l).l.length = 0 := by
  show chkB 4 0 l.length = 0
  unfold chkB
  rw [if_neg (by omega), if_pos rfl, if_neg (by omega), if_neg (by omega)]
theorem stF_ok {f : Sb} (h : f.st.chk = 0) : ∀ x ∈ stF f, chkB x.s x.n x.l.length = 0 := by
  obtain ⟨k0, k1, w0, w1, n0, n1, hl⟩ := scC_ok31 h
  simp only [Sb.st] at k0 k1 w0 w1 n0 n1 hl
  intro x hx
  simp only [stF, List.mem_cons, List.not_mem_nil, or_false] at hx
  rcases hx with rfl | rfl | rfl | rfl
  · exact chkn0 k0 (by omega)
  · exact chkn1 w0 w1
  · exact chkn2 n0 (by omega)
  · exact chkn4 _ _ (by omega)
/-- Fields that are right: all of them fit, or the error is 'too long'. -/
theorem putsB_fit : ∀ (fs : List Fd) (st : List UInt8 × Int), st.2 = 0 → (∀ f ∈ fs, chkB f.s f.n f.l.length = 0) → ((st.1.length + (catF fs).length ≤ 1024 → putsB st fs = (st.1 ++ catF fs, 0)) ∧ (1024 < st.1.length + (catF fs).length → st.1.length ≤ 1024 → (putsB st fs).2 = 2))
  | [], st, h, _ => ⟨fun _ => by simp [catF, putsB]; exact Prod.ext rfl h, fun h1 h2 => by simp [catF] at h1; omega⟩
  | f :: fs, st, h, hok => by
    have h0 := hok f (List.mem_cons_self ..)
    have hc : catF (f :: fs) = outB f.s f.n f.l ++ catF fs := rfl
    have hp : putsB st (f :: fs) = putsB (putB st f) fs := rfl
    rw [hc, hp, List.length_append]
    by_cases h1 : 1024 < st.1.length + (outB f.s f.n f.l).length
    · rw [putB_long h h0 h1]
      exact ⟨fun h2 => by omega, fun _ _ => by rw [putsB_stuck _ _ (by simp)]⟩
    · rw [putB_ok h h0 h1]
      obtain ⟨i1, i2⟩ := putsB_fit fs (st.1 ++ outB f.s f.n f.l, 0) rfl fun x hx => hok x (List.mem_cons_of_mem _ hx)
      simp only [List.length_append] at i1 i2
      exact ⟨fun h2 => by rw [i1 (by omega), List.append_assoc], fun h2 h3 => i2 (by omega) (by omega)⟩
/-- The writer behind k steps. -/
def wrS (N : Nat) (fs : List Sb) : List UInt8 × Int := putsB (putB ([], 0) (nf 0 N)) (fs.flatMap stF)
theorem wrS_len (N : Nat) (fs : List Sb) : (wrS N fs).1.length ≤ 1024 := putsB_len _ _ (putB_len _ _ (by simp))
theorem wrS_nil (N : Nat) : wrS N [] = putB ([], 0) (nf 0 N) := rfl
theorem wrS_snoc (N : Nat) (fs : List Sb) (f : Sb) : wrS N (fs ++ [f]) = putB (putB (putB (putB (wrS N fs) (nf 0 f.k)) (nf 1 f.who)) (nf 2 f.n)) (bf f.A f.c f.l) := by
  unfold wrS putsB
  rw [List.flatMap_append, List.foldl_append]
  rfl
theorem catF_flat (fs : List Sb) : catF (fs.flatMap stF) = fs.flatMap enc1 := by
  induction fs with
  | nil => rfl
  | cons f fs ih =>
    have : catF (stF f ++ fs.flatMap stF) = catF (stF f) ++ catF (fs.flatMap stF) := by simp [catF]
    rw [List.flatMap_cons, List.flatMap_cons, this, ih, catF_stF]
theorem wrS_is (N : Nat) (hN : N ≤ 255) (fs : List Sb) (hok : ∀ f ∈ fs, f.st.chk = 0) : ((encS N fs).length ≤ 1024 → wrS N fs = (encS N fs, 0)) ∧ (1024 < (encS N fs).length → (wrS N fs).2 = 2) := by
  have h0 : putB ([], 0) (nf 0 N) = (numB 1 N, 0) := by
    rw [putB_ok rfl (chkn0 (by omega) (by omega)) (by simp [nf, outB, widB, numB_length])]
    simp [nf, outB, widB]
  obtain ⟨i1, i2⟩ := putsB_fit (fs.flatMap stF) (numB 1 N, 0) rfl (by
    intro x hx
    obtain ⟨f, hf, hx⟩ := List.mem_flatMap.1 hx
    exact stF_ok (hok f hf) x hx)
  unfold wrS encS
  rw [h0]
  rw [catF_flat] at i1 i2
  simp only [List.length_append, numB_length] at i1 i2 ⊢
  exact ⟨i1, fun h => i2 h (by omega)⟩
/-- A script's bytes, and the error. -/
def sbytes (fs : List Sb) : List UInt8 × Int :=
  if 32 < fs.length then ([], 2) else match fs.find? fun f => decide (f.st.chk ≠ 0) with
  | some f => ([], f.st.chk)
  | none => if 1024 < (encS fs.length fs).length then ([], 2) else (encS fs.length fs, 0)
theorem sbytes_long {fs : List Sb} (h : 32 < fs.length) : sbytes fs = ([], 2) := by unfold sbytes; rw [if_pos h]
theorem sbytes_bad {fs : List Sb} {k : Nat} {f : Sb} (h : fs.length ≤ 32) (hk : fs[k]? = some f) (hok : ∀ x ∈ fs.take k, x.st.chk = 0) (hf : f.st.chk ≠ 0) : sbytes fs = ([], f.st.chk) := by
  unfold sbytes
  rw [if_neg (by omega)]
  have : fs.find? (fun f => decide (f.st.chk ≠ 0)) = some f := by
    rw [← List.take_append_drop k fs, List.find?_append, List.find?_eq_none.2 (by intro x hx; simpa using hok x hx)]
    have hlt := (List.getElem?_eq_some_iff.1 hk).1
    rw [List.drop_eq_getElem_cons hlt]
    obtain ⟨_, e⟩ := List.getElem?_eq_some_iff.1 hk
    rw [e]
    simp [List.find?_cons, hf]
  rw [this]
theorem sbytes_ok {fs : List Sb} (h : fs.length ≤ 32) (hok : ∀ x ∈ fs, x.st.chk = 0) : sbytes fs = if 1024 < (encS fs.length fs).length then ([], 2) else (encS fs.length fs, 0) := by
  unfold sbytes
  rw [if_neg (by omega), List.find?_eq_none.2 (by intro x hx; simpa using hok x hx)]
theorem sbytes_out {fs : List Sb} (h : fs.length ≤ 32) (hok : ∀ x ∈ fs, x.st.chk = 0) : sbytes fs = (if (wrS fs.length fs).2 = 0 then (wrS fs.length fs).1 else [], (wrS fs.length fs).2) := by
  obtain ⟨i1, i2⟩ := wrS_is fs.length (by omega) fs hok
  rw [sbytes_ok h hok]
  by_cases hl : 1024 < (encS fs.length fs).length
  · rw [if_pos hl, i2 hl]
    rfl
  · rw [if_neg hl, i1 (by omega)]
    rfl
theorem encS_snoc (N : Nat) (fs : List Sb) (f : Sb) : encS N (fs ++ [f]) = encS N fs ++ enc1 f := by simp [encS]
theorem take_snoc31 {fs : List Sb} {k : Nat} {f : Sb} (h : fs[k]? = some f) : fs.take (k + 1) = fs.take k ++ [f] := by rw [List.take_add_one, h]; rfl
end Go.Proofs.YtnopmdhjamkoaaaDoor
