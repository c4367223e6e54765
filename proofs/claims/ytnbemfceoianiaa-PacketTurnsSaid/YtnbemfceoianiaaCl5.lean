/- Contracts of package claims: Read, Parse. -/
import Derived.Test.YtnbemfceoianiaaCl1
import Derived.Test.YtnbemfceoianiaaRd4
import Derived.Test.YtnbemfceoianiaaRdL
namespace Go.Proofs.Ytnbemfceoianiaa
set_option linter.unusedVariables false
open Go.RowKit

instance clOkDec (i r x s : Int) : Decidable (clOk i r x s) := by unfold clOk; infer_instance

/-- The reader behind the numbers of claims. -/
def cSt1 (st : RS) : RS := nS st 1
def cSt2 (st : RS) : RS := nS (cSt1 st) 0
def cSt3 (st : RS) : RS := nS (cSt2 st) 2
def cSt4 (st : RS) : RS := nS (cSt3 st) 1
def cI (st : RS) : Int := nV st 1
def cR (st : RS) : Int := nV (cSt1 st) 0
def cX (st : RS) : Int := nV (cSt2 st) 2
def cS (st : RS) : Int := nV (cSt3 st) 1
abbrev C4 := Int × Int × Int × Int
/-- The claims that are read, and the error. -/
def clRead (st : RS) : C4 × Int := if (cSt4 st).2 ≠ 0 then ((0, 0, 0, 0), (cSt4 st).2) else if clOk (cI st) (cR st) (cX st) (cS st) then ((cI st, cR st, cX st, cS st), 0) else ((0, 0, 0, 0), 3)
theorem RrX.put2 {W w : World} {xb bl : Bl} {xr ow : List Ro} {g : Nat} {st : RS} {y : Nat × TypeId × Array Value} {r : Nat} {t : TypeId} {cs : Array Value} (h : RrX W (y :: (r, t, cs) :: xb) xr bl ow g st w) (i : Nat) (u : Value) :
    RrX W (y :: (r, t, cs.setIfInBounds i u) :: xb) xr bl ow g st (w.setCell ⟨r, i, none⟩ u) := by
  obtain ⟨A, c, h1, h2, h3⟩ := h
  exact ⟨A, c, Mst.put [_, _] h1 i u, h2, h3⟩
def clV (c : C4) : Value := .agg #[.int .i64 c.1, .int .i64 c.2.1, .int .i64 c.2.2.1, .int .i64 c.2.2.2]

set_option maxRecDepth 100000 in
set_option maxHeartbeats 3200000 in
theorem clread_any (W w : World) (xb : Bl) (xr : List Ro) (bl : Bl) (ow : List Ro) (g : Nat) (st : RS) (hR : RrX W xb xr bl ow g st w) :
    Calls Try.prog 59 #[.pointer (some ⟨g, 0, none⟩)] w (RrPost W xb xr bl ow g (cSt4 st) (.returned (.tuple #[clV (clRead st).1, .int .i64 (clRead st).2]))) := by
  have H0 := Lib.hid (hR.newb 30 #[.int .i64 0, .int .i64 0, .int .i64 0, .int .i64 0])
  have hg := hR.lt
  clear hR
  obtain ⟨i, hi⟩ : ∃ i, cI st = i := ⟨_, rfl⟩
  obtain ⟨r, hr⟩ : ∃ i, cR st = i := ⟨_, rfl⟩
  obtain ⟨x, hx⟩ : ∃ i, cX st = i := ⟨_, rfl⟩
  obtain ⟨s, hs⟩ : ∃ i, cS st = i := ⟨_, rfl⟩
  obtain ⟨s4, hs4⟩ : ∃ i, cSt4 st = i := ⟨_, rfl⟩
  have HQ := Lib.hid (show clRead st = if s4.2 ≠ 0 then ((0, 0, 0, 0), s4.2) else if clOk i r x s then ((i, r, x, s), 0) else ((0, 0, 0, 0), 3) by unfold clRead; rw [hi, hr, hx, hs, hs4])
  have hi' : nV st 1 = i := hi
  have hr' : nV (cSt1 st) 0 = r := hr
  have hx' : nV (cSt2 st) 2 = x := hx
  have hs' : nV (cSt3 st) 1 = s := hs
  have HI := Lib.hid hi'
  have HR := Lib.hid hr'
  have HX := Lib.hid hx'
  have HS := Lib.hid hs'
  have H4 := Lib.hid hs4
  clear hi hr hx hs hi' hr' hx' hs' hs4
  go_enter Try.func59, Try.ntmps59
  go_wp2_with fail
  refine (rdnum_any W _ _ xr bl ow g _ H0.out 1).mono ?_
  rintro e w1 ⟨rfl, h1⟩
  have H1 := Lib.hid (show RrX W _ xr bl ow g (cSt1 st) w1 from h1)
  rw [HI.out]
  clear h1
  go_wp2_with fail
  refine (rdnum_any W _ _ xr bl ow g _ H1.out 0).mono ?_
  rintro e w2 ⟨rfl, h2⟩
  have H2 := Lib.hid (show RrX W _ xr bl ow g (cSt2 st) w2 from h2)
  rw [HR.out]
  clear h2
  go_wp2_with fail
  refine (rdnum_any W _ _ xr bl ow g _ H2.out 2).mono ?_
  rintro e w3 ⟨rfl, h3⟩
  have H3 := Lib.hid (show RrX W _ xr bl ow g (cSt3 st) w3 from h3)
  rw [HX.out]
  clear h3
  go_wp2_with fail
  refine (rdnum_any W _ _ xr bl ow g _ H3.out 1).mono ?_
  rintro e w4 ⟨rfl, h4⟩
  have h4' : RrX W _ xr bl ow g (cSt4 st) w4 := h4
  rw [H4.out] at h4'
  rw [HS.out]
  have h5 := h4'.newb 30 #[.int .i64 i, .int .i64 r, .int .i64 x, .int .i64 s]
  have hl4 := (h4'.blk (List.mem_cons_self ..)).lt
  have hg4 := h4'.lt
  have HR4 := Lib.hid h4'
  have H5 := Lib.hid h5
  have e1 := h4'.err
  have kb := h4'.blk (List.mem_cons_self ..)
  have k0 := kb.cell 0
  have k1 := kb.cell 1
  have k2 := kb.cell 2
  have k3 := kb.cell 3
  have q0 := kb.fr 0
  have q1 := kb.fr 1
  have q2 := kb.fr 2
  have q3 := kb.fr 3
  simp at k0 k1 k2 k3 q0 q1 q2 q3
  clear h4 h4' h5 kb
  go_wp2_with fail
  refine (err_any W _ _ xr bl ow g _ H5.out).mono ?_
  rintro e w' ⟨rfl, rfl⟩
  by_cases he : s4.2 = 0
  · have he' : (s4.2 != 0) = false := by rw [he]; rfl
    have HE := Lib.hid he
    clear he
    go_wp2_with fail
    refine (clcheck_any i r x s _).mono ?_
    rintro e w6 ⟨hc, hb⟩
    have h6 := H5.out.below hb
    have kb := h6.blk (x := (w.heap.size, 30, #[.int .i64 0, .int .i64 0, .int .i64 0, .int .i64 0])) (by simp)
    have kc := h6.blk (x := (w4.heap.size, 30, #[.int .i64 i, .int .i64 r, .int .i64 x, .int .i64 s])) (by simp)
    have j0 := kb.cell 0
    have j1 := kb.cell 1
    have j2 := kb.cell 2
    have j3 := kb.cell 3
    have p0 := kb.fr 0
    have p1 := kb.fr 1
    have p2 := kb.fr 2
    have p3 := kb.fr 3
    have m0 := kc.cell 0
    have m1 := kc.cell 1
    have m2 := kc.cell 2
    have m3 := kc.cell 3
    have hne : w.heap.size ≠ w4.heap.size := by omega
    simp at j0 j1 j2 j3 p0 p1 p2 p3 m0 m1 m2 m3
    have H6 := Lib.hid h6
    clear hb h6 kb kc k0 k1 k2 k3 q0 q1 q2 q3 e1
    rcases hc with ⟨hok, rfl⟩ | ⟨hok, rfl⟩
    · have HQ2 := Lib.hid (show clRead st = ((i, r, x, s), 0) by rw [HQ.out, if_neg (by simp [HE.out]), if_pos hok])
      clear HQ hok
      go_wp2_with fail
      refine bodyPost_ret (v := .tuple #[.agg #[.int .i64 i, .int .i64 r, .int .i64 x, .int .i64 s], .int .i64 0]) (by simp [results, Try.results59, go_sem, j0, j1, j2, j3]) rfl ⟨?_, ?_⟩
      · rw [HQ2.out]; rfl
      · rw [H4.out]
        exact ((((H6.out.put2 0 _).put2 1 _).put2 2 _).put2 3 _).dropb.dropb
    · have HQ2 := Lib.hid (show clRead st = ((0, 0, 0, 0), 3) by rw [HQ.out, if_neg (by simp [HE.out]), if_neg hok])
      clear HQ hok
      go_wp2_with fail
      refine bodyPost_ret (v := .tuple #[.agg #[.int .i64 0, .int .i64 0, .int .i64 0, .int .i64 0], .int .i64 3]) (by simp [results, Try.results59, go_sem, j0, j1, j2, j3]) rfl ⟨?_, ?_⟩
      · rw [HQ2.out]; rfl
      · rw [H4.out]
        exact ((((H6.out.put2 0 _).put2 1 _).put2 2 _).put2 3 _).dropb.dropb
  · have he' : (s4.2 != 0) = true := by simpa using he
    have HQ2 := Lib.hid (show clRead st = ((0, 0, 0, 0), s4.2) by rw [HQ.out, if_pos he])
    clear he HQ
    go_wp2_with fail
    refine bodyPost_ret (v := .tuple #[.agg #[.int .i64 0, .int .i64 0, .int .i64 0, .int .i64 0], .int .i64 s4.2]) (by simp [results, Try.results59, go_sem, k0, k1, k2, k3, hl4]) rfl ⟨?_, ?_⟩
    · rw [HQ2.out]; rfl
    · rw [H4.out]
      exact (((((HR4.out.put 0 _).put 1 _).put 2 _).put 3 _).newb _ _).dropb.dropb

/-- What Parse says. -/
def clParse (l : List UInt8) : C4 × Int :=
  if (clRead (newR l)).2 ≠ 0 then ((0, 0, 0, 0), (clRead (newR l)).2) else if endR (cSt4 (newR l)) ≠ 0 then ((0, 0, 0, 0), endR (cSt4 (newR l))) else ((clRead (newR l)).1, 0)

set_option maxRecDepth 100000 in
set_option maxHeartbeats 3200000 in
theorem clparse_any (w : World) (A : Option Addr) (c : Nat) (l : List UInt8) (hl : RB w w.heap.size A l) (hn : l.length ≤ 1000000) :
    Calls Try.prog 38 #[.slice A l.length c] w fun e w' => e = .returned (.tuple #[clV (clParse l).1, .int .i64 (clParse l).2]) ∧ Below w.heap.size w w' := by
  have hM := (Mst.start w).new 30 #[.int .i64 0, .int .i64 0, .int .i64 0, .int .i64 0]
  have HM := Lib.hid hM
  have HL := Lib.hid (show RB _ _ A l from Rd.more (Rd.below hl hM.bel) hM.bel.size)
  clear hl hM
  go_enter Try.func38, Try.ntmps38
  go_wp2_with fail
  refine (rdnew_any w _ _ _ HM.out A c l HL.out hn).mono ?_
  rintro e w1 ⟨g, A1, c1, rfl, hg, h1⟩
  have H1 := Lib.hid h1
  clear h1
  go_wp2_with fail
  refine (clread_any w _ _ _ _ _ g _ H1.out).mono ?_
  rintro e w2 ⟨rfl, h2⟩
  obtain ⟨q, hq⟩ : ∃ q, clRead (newR l) = q := ⟨_, rfl⟩
  obtain ⟨st, hst⟩ : ∃ q, cSt4 (newR l) = q := ⟨_, rfl⟩
  have HQ := Lib.hid (show clParse l = if q.2 ≠ 0 then ((0, 0, 0, 0), q.2) else if endR st ≠ 0 then ((0, 0, 0, 0), endR st) else (q.1, 0) by unfold clParse; rw [hq, hst])
  rw [hst] at h2
  rw [hq]
  obtain ⟨⟨i, r, x, s⟩, er⟩ := q
  have h3 := h2.newb 30 #[.int .i64 i, .int .i64 r, .int .i64 x, .int .i64 s]
  have kb := h2.blk (x := (w.heap.size, 30, #[.int .i64 0, .int .i64 0, .int .i64 0, .int .i64 0])) (by simp)
  have hl2 := kb.lt
  have k0 := kb.cell 0
  have k1 := kb.cell 1
  have k2 := kb.cell 2
  have k3 := kb.cell 3
  have q0 := kb.fr 0
  have q1 := kb.fr 1
  have q2 := kb.fr 2
  have q3 := kb.fr 3
  simp at k0 k1 k2 k3 q0 q1 q2 q3 hl2
  have hne : w.heap.size ≠ w2.heap.size := by omega
  obtain ⟨_, _, m2, _⟩ := id h2
  have HB := Lib.hid m2.bel
  have H3 := Lib.hid h3
  clear hq hst h2 h3 kb m2
  unfold clV
  by_cases he : er = 0
  · subst he
    have hq1 : clParse l = if endR st ≠ 0 then ((0, 0, 0, 0), endR st) else ((i, r, x, s), 0) := by rw [HQ.out, if_neg (by simp)]
    obtain ⟨en, hen⟩ : ∃ e, endR st = e := ⟨_, rfl⟩
    have hend := end_any w _ _ _ _ _ g _ H3.out
    rw [hen] at hq1 hend
    have HE := Lib.hid hend
    by_cases hz : en = 0
    · subst hz
      have HQ2 := Lib.hid (show clParse l = ((i, r, x, s), 0) by rw [hq1, if_neg (by simp)])
      clear hq1 HQ hend hen
      go_wp2_with fail
      refine HE.out.mono ?_
      rintro e w' ⟨rfl, rfl⟩
      go_wp2_with fail
      refine bodyPost_ret (v := .tuple #[.agg #[.int .i64 i, .int .i64 r, .int .i64 x, .int .i64 s], .int .i64 0]) (by simp [results, Try.results38, go_sem, k0, k1, k2, k3, hl2]) rfl ⟨?_, ?_⟩
      · rw [HQ2.out]; rfl
      · exact ((((HB.out.setCell (by simp) _).setCell (by simp) _).setCell (by simp) _).setCell (by simp) _).alloc (by simp; omega) _
    · have hz' : (en != 0) = true := by simpa using hz
      have HQ2 := Lib.hid (show clParse l = ((0, 0, 0, 0), en) by rw [hq1, if_pos hz])
      clear hq1 HQ hend hen hz
      go_wp2_with fail
      refine HE.out.mono ?_
      rintro e w' ⟨rfl, rfl⟩
      go_wp2_with fail
      refine bodyPost_ret (v := .tuple #[.agg #[.int .i64 0, .int .i64 0, .int .i64 0, .int .i64 0], .int .i64 en]) (by simp [results, Try.results38, go_sem, k0, k1, k2, k3, hl2]) rfl ⟨?_, ?_⟩
      · rw [HQ2.out]; rfl
      · exact ((((HB.out.setCell (by simp) _).setCell (by simp) _).setCell (by simp) _).setCell (by simp) _).alloc (by simp; omega) _
  · have he' : (er != 0) = true := by simpa using he
    have he2 : (er == 0) = false := by simpa using he
    have HQ2 := Lib.hid (show clParse l = ((0, 0, 0, 0), er) by rw [HQ.out, if_pos he])
    clear he HQ
    go_wp2_with fail
    refine bodyPost_ret (v := .tuple #[.agg #[.int .i64 0, .int .i64 0, .int .i64 0, .int .i64 0], .int .i64 er]) (by simp [results, Try.results38, go_sem, k0, k1, k2, k3, hl2]) rfl ⟨?_, ?_⟩
    · rw [HQ2.out]; rfl
    · exact ((((HB.out.setCell (by simp) _).setCell (by simp) _).setCell (by simp) _).setCell (by simp) _).alloc (by simp; omega) _
end Go.Proofs.Ytnbemfceoianiaa
