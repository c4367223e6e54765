/- Contract of the law's few: at most twelve parts, of at most 100 bytes. -/
import Derived.Test.YthnaobolmgcclaaRun3
import Derived.Deep.DeepCutAuto
namespace Go.Proofs.Ythnaobolmgcclaa
set_option linter.unusedVariables false
open Go.RowKit

/-- A part's first N bytes. -/
def Pt.cut (p : Pt) (N : Nat) : Pt := ⟨p.A, p.c, p.l.take N⟩
/-- The first M parts, cut. -/
def fewP (M N : Nat) (ps : List Pt) : List Pt := (ps.take M).map (Pt.cut · N)
theorem fewP_len (M N : Nat) (ps : List Pt) : (fewP M N ps).length = min M ps.length := by simp [fewP]
theorem fewP_get (M N : Nat) {ps : List Pt} {k : Nat} {p : Pt} (h : ps[k]? = some p) (hk : k < M) : (fewP M N ps)[k]? = some (p.cut N) := by
  simp [fewP, List.getElem?_map, hk, h]
theorem catP_len_le {ps : List Pt} {N : Nat} (h : ∀ p ∈ ps, p.l.length ≤ N) : (catP ps).length ≤ ps.length * N := by
  induction ps with
  | nil => simp [catP]
  | cons p ps ih =>
    rw [catP_cons, List.length_append, List.length_cons, Nat.add_mul]
    have h1 := h p (List.mem_cons_self ..)
    have h2 := ih fun q hq => h q (List.mem_cons_of_mem _ hq)
    omega
theorem fewP_le (M N : Nat) (ps : List Pt) : ∀ p ∈ fewP M N ps, p.l.length ≤ N := by
  intro p hp
  simp only [fewP, List.mem_map] at hp
  obtain ⟨q, _, rfl⟩ := hp
  simp [Pt.cut]
  omega
/-- A slice's first bytes. -/
theorem RB.cut {w : World} {B : Nat} {A : Option Addr} {l : List UInt8} (h : RB w B A l) (N : Nat) : RB w B A (l.take N) := by
  refine ⟨by simp [by8], fun hn => ?_⟩
  obtain ⟨b, o, e, hb, hc⟩ := h.2 (by simp at hn; omega)
  refine ⟨b, o, e, hb, fun j u hu => hc j u ?_⟩
  simp only [by8, List.map_take] at hu
  rw [List.getElem?_take] at hu
  split at hu
  · exact hu
  · cases hu
theorem el_bs : El Try.prog 51 26 1 24 := El.of Try.underlying51 (z := .slice none 0 0) (by kernel_rfl) rfl (by decide)
structure QEq (qs : List Pt) (k : Nat) (q : Pt) : Prop where
  tk : qs.take (k + 1) = qs.take k ++ [q]
  ct : catP (qs.take (k + 1)) = catP (qs.take k) ++ q.l
structure FeR (w wr : World) (qs : List Pt) (k : Nat) (v1 v2 : Value) : Prop where
  m : Mst w wr [] [⟨26, 1, v1, k, (qs.take k).map Pt.v⟩, ⟨5, 1, v2, (catP (qs.take k)).length, by8 (catP (qs.take k))⟩]
theorem few_next {w wr : World} {qs : List Pt} {k S L : Nat} {pA : Option Addr} {pc : Nat} {b : List UInt8} {v1 v2 : Value} (hq : QEq qs k ⟨pA, pc, b⟩) (hS : (catP (qs.take k)).length = S) (hL : b.length = L)
    (h : Mst w wr [] [⟨26, 1, v1, k + 1, (qs.take k).map Pt.v ++ [.slice pA L pc]⟩, ⟨5, 1, v2, S + L, by8 (catP (qs.take k)) ++ by8 b⟩]) : FeR w wr qs (k + 1) v1 v2 := by
  refine ⟨?_⟩
  rw [hq.ct, hq.tk, List.map_append, List.length_append, by8_append, hS]
  subst hL
  exact h
set_option maxRecDepth 100000 in
set_option maxHeartbeats 2000000 in
theorem few1_any (w : World) (A : Option Addr) (c : Nat) (ps : List Pt) (hp : Pts w A ps) (hc : ∀ p ∈ ps, p.l.length ≤ p.c ∧ p.c ≤ 9223372036854775807) (hn : ps.length ≤ 9223372036854775807) :
    Calls Try.prog 31 #[.slice A ps.length c] w fun e w' => ∃ v1 v2, e = .returned (.tuple #[v1, v2]) ∧ FeR w w' (fewP 12 100 ps) (fewP 12 100 ps).length v1 v2 := by
  obtain ⟨n, hN⟩ : ∃ n, ps.length = n := ⟨_, rfl⟩
  obtain ⟨N, hN0⟩ : ∃ N, (fewP 12 100 ps).length = N := ⟨_, rfl⟩
  have hN1 : N ≤ 12 := by rw [← hN0, fewP_len]; omega
  have hN2 : N ≤ n := by rw [← hN0, fewP_len, hN]; omega
  have HN := Lib.hid (show N = n ∨ N = 12 by rw [← hN0, fewP_len, hN]; omega)
  have HNn := Lib.hid hN
  have HNN := Lib.hid hN0
  rw [hN] at hn ⊢
  rw [hN0]
  have HP := Lib.hid hp
  have HC := Lib.hid hc
  have hn1 : (n : Int) ≤ 9223372036854775807 := by omega
  clear hp hc hN hN0
  go_enter Try.func31, Try.ntmps31
  go_wp2_with fail
  go_loopg [6, 4, 5] N (fun gk s6 s4 s5 wr => ∃ k : Nat, k + gk = N ∧ s6 = .int .i64 k ∧ FeR w wr (fewP 12 100 ps) k s4 s5)
  case atStart => exact ⟨0, by omega, rfl, ⟨((Mst.start w).nilrow _ _).nilrow _ _⟩⟩
  case round =>
    obtain ⟨k, hk, rfl, ⟨hm⟩⟩ := hrel
    by_cases hlt : k < N
    · obtain ⟨p, hpk⟩ : ∃ p, ps[k]? = some p := ⟨_, List.getElem?_eq_getElem (by have := HNn.out; omega)⟩
      obtain ⟨b, o, rfl, hb, hcell⟩ := HP.out.at_ (by have := HNn.out; omega)
      have c0 := hm.old hb (hcell k p hpk)
      have hq := fewP_get 12 100 hpk (by omega)
      have e1 := catP_take hq
      obtain ⟨hpc, hpc2⟩ := HC.out p (List.mem_of_getElem? hpk)
      have hrd := (HP.out.2 p (List.mem_of_getElem? hpk)).cut 100
      have e2 : (fewP 12 100 ps).take (k + 1) = (fewP 12 100 ps).take k ++ [p.cut 100] := by
        have hkl : k < (fewP 12 100 ps).length := by rw [HNN.out]; exact hlt
        rw [List.take_succ_eq_append_getElem hkl]
        rw [List.getElem?_eq_getElem hkl] at hq
        injection hq with hq
        rw [hq]
      have hcl : (catP ((fewP 12 100 ps).take k)).length ≤ 1200 := by
        have h1 := catP_len_le (N := 100) (ps := (fewP 12 100 ps).take k) fun p hp => fewP_le 12 100 ps p (List.mem_of_mem_take hp)
        have h2 : ((fewP 12 100 ps).take k).length ≤ 12 := by rw [List.length_take]; omega
        omega
      obtain ⟨pA, pc, pl⟩ := p
      unfold Pt.v at c0
      simp only at c0 hpc hpc2 hrd
      have HQ : QEq (fewP 12 100 ps) k ⟨pA, pc, pl.take 100⟩ := ⟨e2, e1⟩
      obtain ⟨G, hG⟩ : ∃ G, pl.length = G := ⟨_, rfl⟩
      obtain ⟨L, hL⟩ : ∃ L, (pl.take 100).length = L := ⟨_, rfl⟩
      have hLG : (G ≤ 100 ∧ L = G) ∨ (100 < G ∧ L = 100) := by
        have : (pl.take 100).length = min 100 pl.length := by simp
        omega
      obtain ⟨S, hS⟩ : ∃ S, (catP ((fewP 12 100 ps).take k)).length = S := ⟨_, rfl⟩
      rw [hG] at c0 hpc
      unfold RB at hrd
      rw [hL] at hrd
      rw [hS] at hcl hm
      have HM := Lib.hid hm
      have HRD := Lib.hid hrd
      have HLL := Lib.hid hL
      have HSS := Lib.hid hS
      have i1 : (k : Int) < n := by omega
      have i2 : (0 : Int) ≤ k := by omega
      have i3 : (k : Int) < 12 := by omega
      clear hm hcell hq e1 e2 hrd hG hL hS hpk
      rcases hLG with ⟨h5, h6⟩ | ⟨h5, h6⟩
      · subst h6
        have i4 : (0 : Int) ≤ (L : Int) := by omega
        have i6 : (L : Int) ≤ (pc : Int) := by omega
        have hd : decide (100 < (L : Int)) = false := by simp; omega
        have hm : min (L : Int) 100 = (L : Int) := by omega
        go_wp2
        go_quiet (fail)
        go_wp2_with (at_builtin; first
          | (refine wpList_appM rfl _ _ 51 rfl [] (Mst.alloc (HM.out.drewN nq) _) el_bs rfl _ _ 1 1 [.slice pA L pc] rfl (Rd.new1 _ #[.slice pA L pc] _ rfl) (one1 _ rfl) (by unfold maxLen; omega) (by omega) ?_; intro A4 c4 w4 s4; have S4 := Lib.hid s4; clear s4)
          | (refine wpList_appM rfl _ _ 26 rfl [_] S4.out el_u8c rfl _ pA L pc (by8 (pl.take 100)) rfl (S4.out.oldRd HRD.out) (by8_one _) (by unfold maxLen; omega) (by omega) ?_; intro A5 c5 w5 s5; have S5 := Lib.hid s5; clear s5))
        go_roundg (N - (k + 1))
        case measure => exact meas hk hlt
        case rel => exact ⟨k + 1, meas2 hlt, by go_num, few_next HQ HSS.out HLL.out S5.out⟩
      · subst h6
        have i4 : (0 : Int) ≤ (G : Int) := by omega
        have i6 : (100 : Int) ≤ (pc : Int) := by omega
        have i7 : (100 : Int) < (G : Int) := by omega
        have hd : decide (100 < (G : Int)) = true := by simp; omega
        have hm : min (G : Int) 100 = (100 : Int) := by omega
        go_wp2
        go_quiet (fail)
        go_wp2_with (at_builtin; first
          | (refine wpList_appM rfl _ _ 51 rfl [] (Mst.alloc (HM.out.drewN nq) _) el_bs rfl _ _ 1 1 [.slice pA 100 pc] rfl (Rd.new1 _ #[.slice pA 100 pc] _ rfl) (one1 _ rfl) (by unfold maxLen; omega) (by omega) ?_; intro A4 c4 w4 s4; have S4 := Lib.hid s4; clear s4)
          | (refine wpList_appM rfl _ _ 26 rfl [_] S4.out el_u8c rfl _ pA 100 pc (by8 (pl.take 100)) rfl (S4.out.oldRd HRD.out) (by8_one _) (by unfold maxLen; omega) (by omega) ?_; intro A5 c5 w5 s5; have S5 := Lib.hid s5; clear s5))
        go_roundg (N - (k + 1))
        case measure => exact meas hk hlt
        case rel => exact ⟨k + 1, meas2 hlt, by go_num, few_next HQ HSS.out HLL.out S5.out⟩
    · obtain rfl : k = N := by omega
      have i1 : ¬ ((k : Int) < n) ∨ ¬ ((k : Int) < 12) := by have := HN.out; omega
      have HM := Lib.hid hm
      clear hm hk hlt
      go_wp2_with fail
      all_goals (
        go_ret2
        exact ⟨_, _, rfl, ⟨HM.out⟩⟩)
end Go.Proofs.Ythnaobolmgcclaa
