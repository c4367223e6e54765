/- Contracts of package wire: New, and the reader's other methods. -/
import Derived.Test.YtnbemfceoianiaaRd3
import Derived.BigQuiet
namespace Go.Proofs.Ytnbemfceoianiaa
set_option linter.unusedVariables false
open Go.RowKit

theorem own_capW {w : World} {base e size n n' c : Nat} {A : Option Addr} {xs : List Value} (h : w.ownsRow base e size (.slice A n' c) n xs) : c ≤ maxLen := by
  rcases h.2 with ⟨h1, _⟩ | ⟨g, cap, cur, h1, _, _, _, h2, _⟩
  · injection h1 with _ _ h3
    rw [h3]
    exact Nat.zero_le _
  · injection h1 with _ _ h3
    rw [h3]
    exact h2
/-- The state of a new reader. -/
def newR (l : List UInt8) : RS := if 1024 < l.length then ([], 2) else (l, 0)
def NewPost (W : World) (xb : Bl) (xr : List Ro) (bl : Bl) (ow : List Ro) (h0 : Nat) (l : List UInt8) (e : Ending) (w' : World) : Prop :=
  ∃ g A c, e = .returned (.pointer (some ⟨g, 0, none⟩)) ∧ h0 ≤ g ∧ RrX W xb xr bl (⟨5, 1, .slice A l.length c, l.length, by8 l⟩ :: ow) g (newR l) w'

set_option maxRecDepth 100000 in
set_option maxHeartbeats 3200000 in
theorem rdnew_any (W w : World) (bl : Bl) (ow : List Ro) (hM : Mst W w bl ow) (A : Option Addr) (c : Nat) (l : List UInt8) (hl : RB w w.heap.size A l) (hn : l.length ≤ 1000000) :
    Calls Try.prog 33 #[.slice A l.length c] w (NewPost W [] [] bl ow w.heap.size l) := by
  have HM := Lib.hid hM
  have HL := Lib.hid hl
  clear hM hl
  by_cases hlong : 1024 < l.length
  all_goals
    go_enter Try.func33, Try.ntmps33
    go_wp2_with fail
    refine (clone_any A c l _ HL.out hn).mono ?_
    rintro e w1 ⟨v, rfl, hf⟩
    obtain ⟨A1, c1, rfl, _, hm1, hc1, _⟩ := own_form hf.own
    have hcap := own_capW hf.own
    have m1 := HM.out.addr hf
    have hsz := hf.bel.size
    have HR : Hid (RrX W [] [] bl (⟨5, 1, .slice A1 l.length c1, l.length, by8 l⟩ :: ow) w1.heap.size (l, 0) (w1.alloc (.cells #[.slice A1 l.length c1, .int .i64 0] 104))) :=
      ⟨A1, c1, m1.new _ _, m1.rowSrc (List.mem_cons_self ..), hc1, by unfold maxLen at hcap; omega⟩
    clear m1 hf hm1 hcap
    go_wp2_with fail
    first
      | (go_ret
         exact ⟨w1.heap.size, A1, c1, rfl, hsz, by rw [show newR l = (l, 0) from if_neg hlong]; exact HR.out⟩)
      | (refine (fail_any W _ [] [] bl _ _ _ HR.out 2).mono ?_
         rintro e w2 ⟨rfl, h2⟩
         have H2 := Lib.hid h2
         clear h2
         go_wp2_with fail
         go_ret
         exact ⟨w1.heap.size, A1, c1, rfl, hsz, by rw [show newR l = ([], 2) from if_pos hlong]; exact H2.out⟩)

/-- A number that is read. -/
def nV (st : RS) (s : Int) : Int := (getF (if s = 4 then failR st 13 else st) s).2.1
def nS (st : RS) (s : Int) : RS := getS (if s = 4 then failR st 13 else st) s

set_option maxRecDepth 100000 in
set_option maxHeartbeats 3200000 in
theorem rdnum_any (W w : World) (xb : Bl) (xr : List Ro) (bl : Bl) (ow : List Ro) (g : Nat) (st : RS) (hR : RrX W xb xr bl ow g st w) (s : Int) :
    Calls Try.prog 34 #[.pointer (some ⟨g, 0, none⟩), .int .i64 s] w (RrPost W xb xr bl ow g (nS st s) (.returned (.int .i64 (nV st s)))) := by
  have HR := Lib.hid hR
  clear hR
  have hfld : ∀ (a b : Int) (A : Option Addr) (m c : Nat) (w : World), (Instr.field 107 (.agg #[.int .i64 a, .int .i64 b, .slice A m c]) 1).run Try.prog w = .ok (.int .i64 b) w := fun _ _ _ _ _ _ => by kernel_rfl
  by_cases h4 : s = 4
  · subst h4
    go_enter Try.func34, Try.ntmps34
    go_wp2_with fail
    refine (fail_any W _ xb xr bl ow g _ HR.out 13).mono ?_
    rintro e w1 ⟨rfl, h1⟩
    have H1 := Lib.hid h1
    clear h1
    go_wp2_with fail
    refine (get_any W _ xb xr bl ow g _ H1.out 4).mono ?_
    rintro e w2 ⟨A, c, rfl, h2⟩
    have H2 := Lib.hid h2
    clear h2
    go_wp2_with fail
    go_ret
    exact ⟨rfl, H2.out.dropr⟩
  · have hd : ((s == 4) = false) := by simpa using h4
    have HV := Lib.hid (show nV st s = (getF st s).2.1 by unfold nV; rw [if_neg h4])
    have HS := Lib.hid (show nS st s = getS st s by unfold nS; rw [if_neg h4])
    clear h4
    go_enter Try.func34, Try.ntmps34
    go_wp2_with fail
    refine (get_any W _ xb xr bl ow g _ HR.out s).mono ?_
    rintro e w2 ⟨A, c, rfl, h2⟩
    have H2 := Lib.hid h2
    clear h2
    go_wp2_with fail
    go_ret
    exact ⟨by rw [HV.out]; rfl, by rw [HS.out]; exact H2.out.dropr⟩

set_option maxHeartbeats 400000 in
theorem left_any (W w : World) (xb : Bl) (xr : List Ro) (bl : Bl) (ow : List Ro) (g : Nat) (st : RS) (hR : RrX W xb xr bl ow g st w) :
    Calls Try.prog 40 #[.pointer (some ⟨g, 0, none⟩)] w fun e w' => e = .returned (.int .i64 st.1.length) ∧ w = w' := by
  obtain ⟨A, c, hc⟩ := hR.bytes
  clear hR
  go_enter Try.func40, Try.ntmps40
  go_wp2
  go_ret
  exact ⟨rfl, rfl⟩
set_option maxHeartbeats 400000 in
theorem err_any (W w : World) (xb : Bl) (xr : List Ro) (bl : Bl) (ow : List Ro) (g : Nat) (st : RS) (hR : RrX W xb xr bl ow g st w) :
    Calls Try.prog 37 #[.pointer (some ⟨g, 0, none⟩)] w fun e w' => e = .returned (.int .i64 st.2) ∧ w = w' := by
  have hc := hR.err
  clear hR
  go_enter Try.func37, Try.ntmps37
  go_wp2
  go_ret
  exact ⟨rfl, rfl⟩
def endR (st : RS) : Int := if st.2 ≠ 0 then st.2 else if 0 < st.1.length then 3 else 0
set_option maxHeartbeats 400000 in
theorem end_any (W w : World) (xb : Bl) (xr : List Ro) (bl : Bl) (ow : List Ro) (g : Nat) (st : RS) (hR : RrX W xb xr bl ow g st w) :
    Calls Try.prog 60 #[.pointer (some ⟨g, 0, none⟩)] w fun e w' => e = .returned (.int .i64 (endR st)) ∧ w = w' := by
  have HR := Lib.hid hR
  clear hR
  obtain ⟨l, er⟩ := st
  by_cases he : er = 0
  · subst he
    by_cases hl : 0 < l.length
    · have HE := Lib.hid (show endR (l, 0) = 3 by unfold endR; rw [if_neg (by simp), if_pos hl])
      go_enter Try.func60, Try.ntmps60
      go_wp2_with (first | ((with_reducible refine (err_any W _ xb xr bl ow g _ HR.out).mono ?_); rintro e w' ⟨rfl, rfl⟩) | ((with_reducible refine (left_any W _ xb xr bl ow g _ HR.out).mono ?_); rintro e w' ⟨rfl, rfl⟩))
      go_ret
      exact ⟨by rw [HE.out]; rfl, rfl⟩
    · have hz : l.length ≤ 0 := by omega
      have HE := Lib.hid (show endR (l, 0) = 0 by unfold endR; rw [if_neg (by simp), if_neg hl])
      go_enter Try.func60, Try.ntmps60
      go_wp2_with (first | ((with_reducible refine (err_any W _ xb xr bl ow g _ HR.out).mono ?_); rintro e w' ⟨rfl, rfl⟩) | ((with_reducible refine (left_any W _ xb xr bl ow g _ HR.out).mono ?_); rintro e w' ⟨rfl, rfl⟩))
      go_ret
      exact ⟨by rw [HE.out]; rfl, rfl⟩
  · have he' : (er != 0) = true := by simpa using he
    have HE := Lib.hid (show endR (l, er) = er by unfold endR; rw [if_pos he])
    clear he
    go_enter Try.func60, Try.ntmps60
    go_wp2_with (first | ((with_reducible refine (err_any W _ xb xr bl ow g _ HR.out).mono ?_); rintro e w' ⟨rfl, rfl⟩) | ((with_reducible refine (left_any W _ xb xr bl ow g _ HR.out).mono ?_); rintro e w' ⟨rfl, rfl⟩))
    go_ret
    exact ⟨by rw [HE.out]; rfl, rfl⟩

/-- Bytes that are read. -/
def bB (st : RS) (most : Int) : List UInt8 := if most < (getF st 4).2.2.length then [] else (getF st 4).2.2
def bS (st : RS) (most : Int) : RS := if most < (getF st 4).2.2.length then failR (getS st 4) 3 else getS st 4
def BytesPost (W : World) (xb : Bl) (xr : List Ro) (bl : Bl) (ow : List Ro) (g : Nat) (st : RS) (most : Int) (e : Ending) (w' : World) : Prop :=
  ∃ A c, e = .returned (.slice A (bB st most).length c) ∧ RrX W xb (⟨5, 1, .slice A (bB st most).length c, (bB st most).length, by8 (bB st most)⟩ :: xr) bl ow g (bS st most) w'

set_option maxRecDepth 100000 in
set_option maxHeartbeats 3200000 in
theorem rdbytes_any (W w : World) (xb : Bl) (xr : List Ro) (bl : Bl) (ow : List Ro) (g : Nat) (st : RS) (hR : RrX W xb xr bl ow g st w) (most : Int) :
    Calls Try.prog 36 #[.pointer (some ⟨g, 0, none⟩), .int .i64 most] w (BytesPost W xb xr bl ow g st most) := by
  have HR := Lib.hid hR
  clear hR
  obtain ⟨s1, n1, b1⟩ : GF := (0, 0, [])
  obtain ⟨f, hf⟩ : ∃ f, getF st 4 = f := ⟨_, rfl⟩
  obtain ⟨s', hs'⟩ : ∃ s', getS st 4 = s' := ⟨_, rfl⟩
  have hg := get_any W w xb xr bl ow g st HR.out 4
  unfold GetPost at hg
  rw [hf, hs'] at hg
  have HG := Lib.hid hg
  have HB : Hid (bB st most = if most < f.2.2.length then [] else f.2.2) := by show _ = _; unfold bB; rw [hf]
  have HS : Hid (bS st most = if most < f.2.2.length then failR s' 3 else s') := by show _ = _; unfold bS; rw [hf, hs']
  obtain ⟨fs, fn, fb⟩ := f
  have hB := HB.out
  have hS := HS.out
  simp only at hB hS
  clear hg hf hs' HB HS
  by_cases hm : most < fb.length
  · have HB := Lib.hid (show bB st most = [] by rw [hB, if_pos hm])
    have HS := Lib.hid (show bS st most = failR s' 3 by rw [hS, if_pos hm])
    clear hB hS
    go_enter Try.func36, Try.ntmps36
    go_wp2_with fail
    refine HG.out.mono ?_
    rintro e w1 ⟨A, c, rfl, h1⟩
    have H1 := Lib.hid (h1.newb 107 #[.int .i64 fs, .int .i64 fn, .slice A fb.length c])
    clear h1
    go_wp2_with fail
    refine (fail_any W _ _ _ bl ow g _ H1.out 3).mono ?_
    rintro e w2 ⟨rfl, h2⟩
    have H2 := Lib.hid h2.dropb
    clear h2
    go_wp2_with fail
    go_ret
    refine ⟨none, 0, by rw [HB.out]; rfl, ?_⟩
    rw [HB.out, HS.out]
    exact H2.out.dropr.nilr _ _
  · have hm' : (fb.length : Int) ≤ most := by omega
    have HB := Lib.hid (show bB st most = fb by rw [hB, if_neg hm])
    have HS := Lib.hid (show bS st most = s' by rw [hS, if_neg hm])
    clear hB hS hm
    go_enter Try.func36, Try.ntmps36
    go_wp2_with fail
    refine HG.out.mono ?_
    rintro e w1 ⟨A, c, rfl, h1⟩
    have H1 := Lib.hid (h1.newb 107 #[.int .i64 fs, .int .i64 fn, .slice A fb.length c])
    clear h1
    go_wp2
    go_ret
    refine ⟨A, c, by rw [HB.out]; rfl, ?_⟩
    rw [HB.out, HS.out]
    exact H1.out.dropb
end Go.Proofs.Ytnbemfceoianiaa
