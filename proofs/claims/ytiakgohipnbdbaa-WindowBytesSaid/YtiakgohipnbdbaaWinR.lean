/- Contracts of package window: Read. -/
import Derived.Test.YtiakgohipnbdbaaWinB
import Derived.Test.YtiakgohipnbdbaaCl5
namespace Go.Proofs.Ytiakgohipnbdbaa
set_option linter.unusedVariables false
open Go.RowKit

instance wnOkDec (b c : Int) : Decidable (wnOk b c) := by unfold wnOk; infer_instance
theorem wcheck_any (b c : Int) (w : World) : Calls Try.prog 16 #[.agg #[.int .i64 b, .int .i64 c]] w fun e w' => ((wnOk b c ∧ e = .returned (.int .i64 0)) ∨ (¬ wnOk b c ∧ e = .returned (.int .i64 10))) ∧ Below w.heap.size w w' := by
  by_cases h : wnOk b c
  · refine (check_yes b c w h.1 h.2.1 h.2.2.1 h.2.2.2).mono ?_
    rintro e w' ⟨rfl, hb⟩
    exact ⟨.inl ⟨h, rfl⟩, hb⟩
  · refine (check_no b c w (by unfold wnOk at h; omega)).mono ?_
    rintro e w' ⟨rfl, hb⟩
    exact ⟨.inr ⟨h, rfl⟩, hb⟩
/-- The reader behind the numbers of a nonce. -/
def wSt1 (st : RS) : RS := nS st 1
def wSt2 (st : RS) : RS := nS (wSt1 st) 2
def wX (st : RS) : Int := nV st 1
def wY (st : RS) : Int := nV (wSt1 st) 2
/-- The nonce that is read, and the error. -/
def wnRead (st : RS) : (Int × Int) × Int := if (wSt2 st).2 ≠ 0 then ((0, 0), (wSt2 st).2) else if wnOk (wX st) (wY st) then ((wX st, wY st), 0) else ((0, 0), 3)
def wnV (c : Int × Int) : Value := .agg #[.int .i64 c.1, .int .i64 c.2]

set_option maxRecDepth 100000 in
set_option maxHeartbeats 3200000 in
theorem wnread_any (W w : World) (xb : Bl) (xr : List Ro) (bl : Bl) (ow : List Ro) (g : Nat) (st : RS) (hR : RrX W xb xr bl ow g st w) :
    Calls Try.prog 20 #[.pointer (some ⟨g, 0, none⟩)] w (RrPost W xb xr bl ow g (wSt2 st) (.returned (.tuple #[wnV (wnRead st).1, .int .i64 (wnRead st).2]))) := by
  have H0 := Lib.hid (hR.newb 28 #[.int .i64 0, .int .i64 0])
  have hg := hR.lt
  clear hR
  obtain ⟨i, hi⟩ : ∃ i, wX st = i := ⟨_, rfl⟩
  obtain ⟨r, hr⟩ : ∃ i, wY st = i := ⟨_, rfl⟩
  obtain ⟨s4, hs4⟩ : ∃ i, wSt2 st = i := ⟨_, rfl⟩
  have HQ := Lib.hid (show wnRead st = if s4.2 ≠ 0 then ((0, 0), s4.2) else if wnOk i r then ((i, r), 0) else ((0, 0), 3) by unfold wnRead; rw [hi, hr, hs4])
  have hi' : nV st 1 = i := hi
  have hr' : nV (wSt1 st) 2 = r := hr
  have HI := Lib.hid hi'
  have HR := Lib.hid hr'
  have H4 := Lib.hid hs4
  clear hi hr hi' hr' hs4
  go_enter Try.func20, Try.ntmps20
  go_wp2_with fail
  refine (rdnum_any W _ _ xr bl ow g _ H0.out 1).mono ?_
  rintro e w1 ⟨rfl, h1⟩
  have H1 := Lib.hid (show RrX W _ xr bl ow g (wSt1 st) w1 from h1)
  rw [HI.out]
  clear h1
  go_wp2_with fail
  refine (rdnum_any W _ _ xr bl ow g _ H1.out 2).mono ?_
  rintro e w4 ⟨rfl, h4⟩
  have h4' : RrX W _ xr bl ow g (wSt2 st) w4 := h4
  rw [H4.out] at h4'
  rw [HR.out]
  have h5 := h4'.newb 28 #[.int .i64 i, .int .i64 r]
  have hl4 := (h4'.blk (List.mem_cons_self ..)).lt
  have hg4 := h4'.lt
  have HR4 := Lib.hid h4'
  have H5 := Lib.hid h5
  have e1 := h4'.err
  have kb := h4'.blk (List.mem_cons_self ..)
  have k0 := kb.cell 0
  have k1 := kb.cell 1
  have q0 := kb.fr 0
  have q1 := kb.fr 1
  simp at k0 k1 q0 q1
  clear h4 h4' h5 kb
  go_wp2_with fail
  refine (err_any W _ _ xr bl ow g _ H5.out).mono ?_
  rintro e w' ⟨rfl, rfl⟩
  by_cases he : s4.2 = 0
  · have he' : (s4.2 != 0) = false := by rw [he]; rfl
    have HE := Lib.hid he
    clear he
    go_wp2_with fail
    refine (wcheck_any i r _).mono ?_
    rintro e w6 ⟨hc, hb⟩
    have h6 := H5.out.below hb
    have kb := h6.blk (x := (w.heap.size, 28, #[.int .i64 0, .int .i64 0])) (by simp)
    have kc := h6.blk (x := (w4.heap.size, 28, #[.int .i64 i, .int .i64 r])) (by simp)
    have j0 := kb.cell 0
    have j1 := kb.cell 1
    have p0 := kb.fr 0
    have p1 := kb.fr 1
    have m0 := kc.cell 0
    have m1 := kc.cell 1
    have hne : w.heap.size ≠ w4.heap.size := by omega
    simp at j0 j1 p0 p1 m0 m1
    have H6 := Lib.hid h6
    clear hb h6 kb kc k0 k1 q0 q1 e1
    rcases hc with ⟨hok, rfl⟩ | ⟨hok, rfl⟩
    · have HQ2 := Lib.hid (show wnRead st = ((i, r), 0) by rw [HQ.out, if_neg (by simp [HE.out]), if_pos hok])
      clear HQ hok
      go_wp2_with fail
      refine bodyPost_ret (v := .tuple #[.agg #[.int .i64 i, .int .i64 r], .int .i64 0]) (by simp [results, Try.results20, go_sem, j0, j1]) rfl ⟨?_, ?_⟩
      · rw [HQ2.out]; rfl
      · rw [H4.out]
        exact ((H6.out.put2 0 _).put2 1 _).dropb.dropb
    · have HQ2 := Lib.hid (show wnRead st = ((0, 0), 3) by rw [HQ.out, if_neg (by simp [HE.out]), if_neg hok])
      clear HQ hok
      go_wp2_with fail
      refine bodyPost_ret (v := .tuple #[.agg #[.int .i64 0, .int .i64 0], .int .i64 3]) (by simp [results, Try.results20, go_sem, j0, j1]) rfl ⟨?_, ?_⟩
      · rw [HQ2.out]; rfl
      · rw [H4.out]
        exact ((H6.out.put2 0 _).put2 1 _).dropb.dropb
  · have he' : (s4.2 != 0) = true := by simpa using he
    have HQ2 := Lib.hid (show wnRead st = ((0, 0), s4.2) by rw [HQ.out, if_pos he])
    clear he HQ
    go_wp2_with fail
    refine bodyPost_ret (v := .tuple #[.agg #[.int .i64 0, .int .i64 0], .int .i64 s4.2]) (by simp [results, Try.results20, go_sem, k0, k1, hl4]) rfl ⟨?_, ?_⟩
    · rw [HQ2.out]; rfl
    · rw [H4.out]
      exact (((HR4.out.put 0 _).put 1 _).newb _ _).dropb.dropb
theorem wless_any (b c b' c' : Int) (w : World) :
    Calls Try.prog 17 #[.agg #[.int .i64 b, .int .i64 c], .agg #[.int .i64 b', .int .i64 c']] w fun e w' => e = .returned (.bool (lessN b c b' c')) ∧ Below w.heap.size w w' := by
  by_cases h1 : b = b'
  · subst h1
    have e : lessN b c b c' = decide (c < c') := by simp [lessN]
    rw [e]
    go_enter Try.func17, Try.ntmps17
    go_wp2
    go_ret
    exact ⟨rfl, ((((Below.refl _ _).alloc (Nat.le_refl _) _).alloc (by simp) _))⟩
  · have heq : (b == b') = false := by simpa using h1
    by_cases h2 : b < b'
    · have e : lessN b c b' c' = true := by simp [lessN]; omega
      rw [e]
      clear h1
      go_enter Try.func17, Try.ntmps17
      go_wp2
      go_ret
      exact ⟨rfl, ((((Below.refl _ _).alloc (Nat.le_refl _) _).alloc (by simp) _))⟩
    · have e : lessN b c b' c' = false := by simp [lessN]; omega
      rw [e]
      have hd : decide (b < b') = false := by simpa using h2
      clear h1
      go_enter Try.func17, Try.ntmps17
      go_wp2
      go_ret
      exact ⟨rfl, ((((Below.refl _ _).alloc (Nat.le_refl _) _).alloc (by simp) _))⟩
end Go.Proofs.Ytiakgohipnbdbaa
