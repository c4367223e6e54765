/- Pk13. Pk14. -/
import Derived.Test.YtnbemfceoianiaaPk12
import Derived.Test.YtnbemfceoianiaaRf7
/- Packets: what Parse reads, in plain words: bytes of a right packet give it again; what is read has these bytes. -/
namespace Go.Proofs.Ytnbemfceoianiaa
set_option linter.unusedVariables false
set_option linter.unusedSimpArgs false
open Go.RowKit
theorem failR_err {st : RS} (e : Int) (h : st.2 ≠ 0) : failR st e = st := by unfold failR; rw [if_neg h]
theorem failR_ne {st : RS} {e : Int} (he : e ≠ 0) : (failR st e).2 ≠ 0 := by
  unfold failR
  split
  · exact he
  · assumption
theorem restR_err {st : RS} (n : Nat) (h : st.2 ≠ 0) : restR st n = st := by
  unfold restR
  rw [if_neg (fun q => h q.1), failR_err _ h]
theorem numS_err {st : RS} (n : Nat) (h : st.2 ≠ 0) : (numS st n).2 ≠ 0 := by
  unfold numS
  split
  · rw [restR_err n h, failR_err _ h]
    exact h
  · rw [restR_err n h]
    exact h
theorem nS_err {st : RS} {s : Int} (hs : s = 0 ∨ s = 1 ∨ s = 2) (h : st.2 ≠ 0) : (nS st s).2 ≠ 0 := by
  have e : nS st s = numS st (widB s) := by
    unfold nS getS
    rcases hs with rfl | rfl | rfl <;> rfl
  rw [e]
  exact numS_err _ h
theorem num_inv {st : RS} {s : Int} (hs : s = 0 ∨ s = 1 ∨ s = 2) (h : (nS st s).2 = 0) : st.2 = 0 ∧ widB s ≤ st.1.length ∧ nS st s = (st.1.drop (widB s), 0) ∧ numB (widB s) (nV st s) = st.1.take (widB s) := by
  by_cases he : st.2 = 0
  · obtain ⟨l, e⟩ := st
    simp only at he
    subst he
    obtain ⟨h1, h2⟩ := num_step l s hs
    by_cases hw : widB s ≤ l.length
    · rw [if_pos hw] at h1 h2
      refine ⟨rfl, hw, h2, ?_⟩
      rw [h1]
      exact numB_valB (by rw [List.length_take]; omega)
    · rw [if_neg hw] at h2
      rw [h2] at h
      exact absurd h (by decide)
  · exact absurd h (nS_err hs he)
theorem raw_err {st : RS} (h : st.2 ≠ 0) : ∀ n, (rawS st n).2 ≠ 0
  | 0 => h
  | n + 1 => nS_err (.inl rfl) (raw_err h n)
theorem raw_inv {st : RS} : ∀ n, (rawS st n).2 = 0 → st.2 = 0 ∧ n ≤ st.1.length ∧ rawS st n = (st.1.drop n, 0) ∧ rawB st n = st.1.take n
  | 0, h => ⟨h, Nat.zero_le _, by rw [rawS, List.drop_zero]; exact Prod.ext rfl h, by rw [rawB, List.take_zero]⟩
  | n + 1, h => by
    obtain ⟨h0, h1, h2, h3⟩ := num_inv (st := rawS st n) (.inl rfl) h
    obtain ⟨i0, i1, i2, i3⟩ := raw_inv n h0
    rw [i2] at h1 h2
    simp only [List.length_drop] at h1
    have hw : widB 0 = 1 := rfl
    rw [hw] at h1 h2 h3
    have hv := (nV0_le (rawS st n))
    have hlt : n < st.1.length := by omega
    refine ⟨i0, by omega, ?_, ?_⟩
    · rw [rawS, i2, h2, List.drop_drop]
    · rw [rawB, i3, List.take_add_one, List.getElem?_eq_getElem hlt]
      congr 1
      have e1 : numB 1 (nV (rawS st n) 0) = [UInt8.ofNat (nV (rawS st n) 0).toNat] := by
        show [nbyte (nV (rawS st n) 0) 0] = _
        unfold nbyte
        simp
      have h4 : List.take 1 (List.drop n st.1) = [st.1[n]] := by rw [List.drop_eq_getElem_cons hlt]; rfl
      rw [e1, i2] at h3
      simp only at h3
      rw [h4] at h3
      rw [i2]
      exact h3
theorem bS_err {st : RS} (h : st.2 ≠ 0) : (bS st 512).2 ≠ 0 := by
  have hg : (getS st 4).2 ≠ 0 := by
    unfold getS
    rw [if_neg (by decide), if_neg (by decide)]
    split
    · split
      · rw [failR_err _ (numS_err _ h)]
        exact numS_err _ h
      · rw [restR_err _ (numS_err _ h)]
        exact numS_err _ h
    · exact numS_err _ h
  unfold bS
  split
  · rw [failR_err _ hg]
    exact hg
  · exact hg
theorem byt_inv {st : RS} (h : (bS st 512).2 = 0) : st.2 = 0 ∧ ∃ rest, st.1 = numB 2 ((bB st 512).length : Int) ++ bB st 512 ++ rest ∧ bS st 512 = (rest, 0) ∧ (bB st 512).length ≤ 512 := by
  by_cases he : st.2 = 0
  · obtain ⟨l, e⟩ := st
    simp only at he
    subst he
    refine ⟨rfl, ?_⟩
    by_cases h2 : 2 ≤ l.length
    · have ht : takeR (l, 0) 2 = l.take 2 := by unfold takeR; rw [if_pos ⟨rfl, h2⟩]
      have hr : restR (l, 0) 2 = (l.drop 2, 0) := by unfold restR; rw [if_pos ⟨rfl, h2⟩]
      have hlen : (l.take 2).length = 2 := by rw [List.length_take]; omega
      have hlt := valB_lt (l.take 2)
      rw [hlen] at hlt
      have hle : ¬ 9223372036854775807 < valB (l.take 2) := by omega
      have hv : numV (l, 0) 2 = valB (l.take 2) := by unfold numV; rw [ht, if_neg hle]
      have ho : numO (l, 0) 2 = true := by unfold numO; rw [ht, hlen, decide_eq_true hle]; rfl
      have hs : numS (l, 0) 2 = (l.drop 2, 0) := by unfold numS; rw [ht, if_neg hle, hr]
      obtain ⟨n, hn⟩ : ∃ n, valB (l.take 2) = n := ⟨_, rfl⟩
      have hnb : numB 2 (n : Int) = l.take 2 := by rw [← hn]; exact numB_valB hlen
      rw [hn] at hv
      have hgs : getS (l, 0) 4 = if 512 < n then failR (l.drop 2, 0) 3 else restR (l.drop 2, 0) n := by
        unfold getS
        rw [if_neg (by decide), if_neg (by decide), if_pos ho, hv, hs]
      by_cases h5 : 512 < n
      · rw [if_pos h5] at hgs
        have hx : (getS (l, 0) 4).2 ≠ 0 := by rw [hgs]; exact failR_ne (by decide)
        unfold bS at h
        split at h
        · rw [failR_err _ hx] at h
          exact absurd h hx
        · exact absurd h hx
      · rw [if_neg h5] at hgs
        by_cases h6 : n ≤ (l.drop 2).length
        · have hr2 : restR (l.drop 2, 0) n = ((l.drop 2).drop n, 0) := by unfold restR; rw [if_pos ⟨rfl, h6⟩]
          have ht2 : takeR (l.drop 2, 0) n = (l.drop 2).take n := by unfold takeR; rw [if_pos ⟨rfl, h6⟩]
          have hgf : getF (l, 0) 4 = (4, 0, (l.drop 2).take n) := by
            unfold getF
            rw [if_neg (by decide), if_neg (by decide), hv, hs, hr2, ht2, if_pos ⟨ho, by omega, rfl⟩]
          have hbl : ((l.drop 2).take n).length = n := by rw [List.length_take]; omega
          have hb : bB (l, 0) 512 = (l.drop 2).take n := by
            unfold bB
            rw [hgf]
            simp only
            rw [if_neg (by rw [hbl]; omega)]
          have hbs : bS (l, 0) 512 = ((l.drop 2).drop n, 0) := by
            unfold bS
            rw [hgf]
            simp only
            rw [if_neg (by rw [hbl]; omega), hgs, hr2]
          refine ⟨(l.drop 2).drop n, ?_, hbs, by rw [hb, hbl]; omega⟩
          rw [hb, hbl, hnb, List.append_assoc, List.take_append_drop, List.take_append_drop]
        · have hx : (getS (l, 0) 4).2 ≠ 0 := by
            rw [hgs]
            unfold restR
            rw [if_neg (fun q => h6 q.2)]
            exact failR_ne (by decide)
          unfold bS at h
          split at h
          · rw [failR_err _ hx] at h
            exact absurd h hx
          · exact absurd h hx
    · have ht : takeR (l, 0) 2 = [] := by unfold takeR; rw [if_neg (fun q => h2 q.2)]
      have ho : ¬ numO (l, 0) 2 = true := by unfold numO; rw [ht]; simp
      have hs : (numS (l, 0) 2).2 ≠ 0 := by
        unfold numS
        rw [ht, if_neg (by decide)]
        unfold restR
        rw [if_neg (fun q => h2 q.2)]
        exact failR_ne (by decide)
      have hgs : getS (l, 0) 4 = numS (l, 0) 2 := by
        unfold getS
        rw [if_neg (by decide), if_neg (by decide), if_neg ho]
      have hx : (getS (l, 0) 4).2 ≠ 0 := by rw [hgs]; exact hs
      unfold bS at h
      split at h
      · rw [failR_err _ hx] at h
        exact absurd h hx
      · exact absurd h hx
  · exact absurd h (bS_err he)
theorem pcl_inv {l : List UInt8} (h : (pcl l).2 = 0) : clB (pcl l).1.1 (pcl l).1.2.1 (pcl l).1.2.2.1 (pcl l).1.2.2.2 = rawB (ps1 l) 9 := by
  have hb : (rawB (ps1 l) 9).length = 9 := rawB_length _ _
  unfold pcl at h ⊢
  rw [clParse_eq _ (by rw [hb]; decide), if_neg (fun q => by have := q.2; omega)] at h ⊢
  obtain ⟨h1, h2, h3⟩ := parse9_ok h
  rw [h1]
  exact clB_c9 _ hb
set_option maxHeartbeats 1000000 in
/-- What is read has these bytes. -/
theorem parse_inv {l : List UInt8} (hl : l.length ≤ 1024) (h : pOk l) (A : Option Addr) (c : Nat) : hdB (pkR l A c) ++ (pkR l A c).T = l := by
  obtain ⟨h7, hc, hle, -⟩ := h
  have h7' : (rawS (ps6 l) 32).2 = 0 := by unfold ps7 at h7; exact h7
  obtain ⟨e6, n6, s7, b7⟩ := raw_inv (st := ps6 l) 32 h7'
  have e6' : (bS (ps5 l) 512).2 = 0 := by unfold ps6 at e6; exact e6
  obtain ⟨e5, rest, l5, s6, -⟩ := byt_inv e6'
  have e5' : (nS (ps4 l) 2).2 = 0 := by unfold ps5 at e5; exact e5
  obtain ⟨e4, n4, s5, b5⟩ := num_inv (st := ps4 l) (s := 2) (.inr (.inr rfl)) e5'
  have e4' : (nS (ps3 l) 1).2 = 0 := by unfold ps4 at e4; exact e4
  obtain ⟨e3, n3, s4, b4⟩ := num_inv (st := ps3 l) (s := 1) (.inr (.inl rfl)) e4'
  have e3' : (nS (ps2 l) 1).2 = 0 := by unfold ps3 at e3; exact e3
  obtain ⟨e2, n2, s3, b3⟩ := num_inv (st := ps2 l) (s := 1) (.inr (.inl rfl)) e3'
  have e2' : (rawS (ps1 l) 9).2 = 0 := by unfold ps2 at e2; exact e2
  obtain ⟨e1, n1, s2, b2⟩ := raw_inv (st := ps1 l) 9 e2'
  have e1' : (nS (newR l) 0).2 = 0 := by unfold ps1 at e1; exact e1
  obtain ⟨e0, n0, s1, b1⟩ := num_inv (st := newR l) (s := 0) (.inl rfl) e1'
  have hnew : newR l = (l, 0) := newR_short hl
  have hcl := pcl_inv hc
  have w0 : widB 0 = 1 := rfl
  have w1 : widB 1 = 2 := rfl
  have w2 : widB 2 = 4 := rfl
  rw [w0] at s1 b1
  rw [w1] at s3 b3 s4 b4
  rw [w2] at s5 b5
  rw [hnew] at b1
  have t1 : (ps1 l).1 = l.drop 1 := by unfold ps1; rw [s1, hnew]
  have t2 : (ps2 l).1 = (ps1 l).1.drop 9 := by unfold ps2; rw [s2]
  have t3 : (ps3 l).1 = (ps2 l).1.drop 2 := by unfold ps3; rw [s3]
  have t4 : (ps4 l).1 = (ps3 l).1.drop 2 := by unfold ps4; rw [s4]
  have t5 : (ps5 l).1 = (ps4 l).1.drop 4 := by unfold ps5; rw [s5]
  have t6 : (ps6 l).1 = rest := by unfold ps6; rw [s6]
  have t7 : (ps7 l).1 = (ps6 l).1.drop 32 := by unfold ps7; rw [s7]
  have b1' : numB 1 (nV (newR l) 0) = l.take 1 := by rw [hnew]; exact b1
  have b3' := b3
  have b4' := b4
  have b5' := b5
  have hrest : rest = rawB (ps6 l) 32 := by
    rw [b7, t6]
    rw [t7, t6] at hle
    rw [List.length_drop] at hle
    rw [t6] at n6
    exact (List.take_of_length_le (by omega)).symm
  have g5 : (ps5 l).1 = numB 2 ((bB (ps5 l) 512).length : Int) ++ bB (ps5 l) 512 ++ rawB (ps6 l) 32 := by rw [← hrest]; exact l5
  simp only [hdB, pkR, wnB, List.append_assoc]
  rw [List.append_assoc] at g5
  rw [← g5, t5, b5', List.take_append_drop, t4, b4', List.take_append_drop, t3, b3', List.take_append_drop, t2, hcl, b2, List.take_append_drop, t1, b1', List.take_append_drop]
end Go.Proofs.Ytnbemfceoianiaa

/- Packets: the bytes of a right packet are read as that packet. -/
namespace Go.Proofs.Ytnbemfceoianiaa
set_option linter.unusedVariables false
set_option linter.unusedSimpArgs false
open Go.RowKit
theorem num_gotP {s n : Int} {r : List UInt8} (h : chkB s n 0 = 0) (hs : s ≠ 4) (hn : n ≤ 9223372036854775807) : nV (numB (widB s) n ++ r, 0) s = n ∧ nS (numB (widB s) n ++ r, 0) s = (r, 0) := by
  have h1 := get_out s n [] r h hn
  have e : outB s n [] = numB (widB s) n := by unfold outB; exact if_neg hs
  rw [e] at h1
  unfold nV nS
  rw [if_neg hs, h1.1, h1.2]
  exact ⟨rfl, rfl⟩
theorem byt_gotP {l r : List UInt8} (h : l.length ≤ 512) : bB (numB 2 (l.length : Int) ++ l ++ r, 0) 512 = l ∧ bS (numB 2 (l.length : Int) ++ l ++ r, 0) 512 = (r, 0) := by
  have h1 := get_out 4 0 l r (by
    unfold chkB
    rw [if_neg (by omega), if_pos rfl, if_neg (by omega), if_neg (by omega)]) (by omega)
  have e : outB 4 0 l = numB 2 (l.length : Int) ++ l := by unfold outB; exact if_pos rfl
  rw [e] at h1
  unfold bB bS
  rw [h1.1, h1.2, if_neg (by simp; omega), if_neg (by simp; omega)]
  exact ⟨rfl, rfl⟩
theorem raw_app (a r : List UInt8) : ∀ n, n ≤ a.length → rawS (a ++ r, 0) n = (a.drop n ++ r, 0) ∧ rawB (a ++ r, 0) n = a.take n
  | 0, _ => ⟨by rw [rawS, List.drop_zero], by rw [rawB, List.take_zero]⟩
  | n + 1, h => by
    obtain ⟨h1, h2⟩ := raw_app a r n (by omega)
    have hlt : n < a.length := by omega
    have hw : widB 0 = 1 := rfl
    obtain ⟨h3, h4⟩ := num_step (a.drop n ++ r) 0 (.inl rfl)
    rw [hw, if_pos (by simp only [List.length_append, List.length_drop]; omega)] at h3
    rw [hw, if_pos (by simp only [List.length_append, List.length_drop]; omega)] at h4
    have hd : (a.drop n ++ r).drop 1 = a.drop (n + 1) ++ r := by
      rw [List.drop_eq_getElem_cons hlt]
      rfl
    have hv : nV (a.drop n ++ r, 0) 0 = ((a[n]).toNat : Int) := by
      have hx : (a.drop n ++ r).take 1 = [a[n]] := by rw [List.drop_eq_getElem_cons hlt]; rfl
      rw [h3, hx]
      simp [valB]
    refine ⟨by rw [rawS, h1, h4, hd], ?_⟩
    rw [rawB, h2, h1, hv, List.take_add_one, List.getElem?_eq_getElem hlt]
    simp
theorem parse_back {p : Pk} (hT : p.T.length = 32) (hchk : chkP p = 0) (A : Option Addr) (c : Nat) : pOk (hdB p ++ p.T) ∧ pkR (hdB p ++ p.T) A c = { p with A := A, cp := c } := by
  obtain ⟨⟨hk1, hk2⟩, hcl, ⟨ht1, ht2⟩, hwn, hl5, hz⟩ := chkP_ok hchk
  obtain ⟨l, hl⟩ : ∃ l, hdB p ++ p.T = l := ⟨_, rfl⟩
  rw [hl]
  have hlen : l.length ≤ 1024 := by rw [← hl, List.length_append, hdB_len, hT]; omega
  have hnew : newR l = (l, 0) := newR_short hlen
  have w0 : widB 0 = 1 := rfl
  have w1 : widB 1 = 2 := rfl
  have w2 : widB 2 = 4 := rfl
  obtain ⟨r6, hr6⟩ : ∃ r, p.T = r := ⟨_, rfl⟩
  obtain ⟨r5, hr5⟩ : ∃ r, numB 2 (p.l.length : Int) ++ p.l ++ p.T = r := ⟨_, rfl⟩
  obtain ⟨r4, hr4⟩ : ∃ r, numB 4 p.c ++ r5 = r := ⟨_, rfl⟩
  obtain ⟨r3, hr3⟩ : ∃ r, numB 2 p.b ++ r4 = r := ⟨_, rfl⟩
  obtain ⟨r2, hr2⟩ : ∃ r, numB 2 p.t ++ r3 = r := ⟨_, rfl⟩
  obtain ⟨r1, hr1⟩ : ∃ r, clB p.i p.r p.x p.s ++ r2 = r := ⟨_, rfl⟩
  have hl0 : l = numB 1 p.k ++ r1 := by
    rw [← hl, ← hr1, ← hr2, ← hr3, ← hr4, ← hr5]
    simp [hdB, wnB]
  have a0 := num_gotP (s := 0) (n := p.k) (r := r1) (chk_nf0 (n := p.k) (by omega) (by omega)) (by decide) (by omega)
  rw [w0, ← hl0, ← hnew] at a0
  have s1 : ps1 l = (r1, 0) := by unfold ps1; exact a0.2
  have hcl9 : (clB p.i p.r p.x p.s).length = 9 := clB_length _ _ _ _
  have a1 := raw_app (clB p.i p.r p.x p.s) r2 9 (by omega)
  rw [hr1, ← s1, List.drop_of_length_le (by omega), List.take_of_length_le (by omega), List.nil_append] at a1
  have s2 : ps2 l = (r2, 0) := by unfold ps2; exact a1.1
  have a2 := num_gotP (s := 1) (n := p.t) (r := r3) (chk_nf1 (n := p.t) ht1 ht2) (by decide) (by omega)
  rw [w1, hr2, ← s2] at a2
  have s3 : ps3 l = (r3, 0) := by unfold ps3; exact a2.2
  have a3 := num_gotP (s := 1) (n := p.b) (r := r4) (chk_nf1 (n := p.b) (by have := hwn.1; omega) hwn.2.1) (by decide) (by have := hwn.2.1; omega)
  rw [w1, hr3, ← s3] at a3
  have s4 : ps4 l = (r4, 0) := by unfold ps4; exact a3.2
  have a4 := num_gotP (s := 2) (n := p.c) (r := r5) (chk_nf2 (n := p.c) (by have := hwn.2.2.1; omega) (by have := hwn.2.2.2; omega)) (by decide) (by have := hwn.2.2.2; omega)
  rw [w2, hr4, ← s4] at a4
  have s5 : ps5 l = (r5, 0) := by unfold ps5; exact a4.2
  have a5 := byt_gotP (l := p.l) (r := p.T) hl5
  rw [hr5, ← s5] at a5
  have s6 : ps6 l = (p.T, 0) := by unfold ps6; exact a5.2
  have a6 := raw_app p.T [] 32 (by omega)
  rw [List.append_nil, ← s6, List.drop_of_length_le (by omega), List.take_of_length_le (by omega), List.append_nil] at a6
  have s7 : ps7 l = ([], 0) := by unfold ps7; exact a6.1
  have hpc : pcl l = ((p.i, p.r, p.x, p.s), 0) := by
    unfold pcl
    rw [a1.2, clParse_eq _ (by rw [hcl9]; decide), if_neg (fun q => by have := q.2; omega)]
    have := parse9_clB p.i p.r p.x p.s [] hcl
    rwa [List.append_nil] at this
  have hpk : pkR l A c = { p with A := A, cp := c } := by
    unfold pkR
    rw [a0.1, hpc, a2.1, a3.1, a4.1, a5.1, a6.2]
  refine ⟨⟨by rw [s7], by rw [hpc], by rw [s7]; rfl, ?_⟩, hpk⟩
  rw [← pkR_chk l A c, hpk]
  exact hchk
end Go.Proofs.Ytnbemfceoianiaa
