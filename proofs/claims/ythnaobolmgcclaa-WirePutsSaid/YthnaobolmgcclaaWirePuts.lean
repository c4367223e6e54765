/-
  vigillaw04.WirePuts returns true, whatever it is called with. Conditions: none but that the argument is a slice of fields that can be read.
-/
import Derived.Test.YthnaobolmgcclaaOf4
import Derived.Test.YthnaobolmgcclaaRc4
import Derived.Test.YthnaobolmgcclaaWSam2
import Derived.Test.YthnaobolmgcclaaKn04
import Derived.Test.YthnaobolmgcclaaRd4
import Derived.Test.YthnaobolmgcclaaRdL
import Derived.Test.YthnaobolmgcclaaOpen3
import Derived.Deep.DeepCutAuto
import Derived.Deep.CutBlock
import Derived.Lib.Builder
namespace Go.Proofs.Ythnaobolmgcclaa
set_option linter.unusedVariables false
open Go.RowKit

/-- The document's bytes so far, and what is wrong. -/
def LpRel (W : World) (bl : Bl) (ow : List Ro) (st : List UInt8 × Int) (s7 s8 : Value) (w : World) : Prop := s8 = .int .i64 st.2 ∧ Mst W w bl (⟨5, 1, s7, st.1.length, by8 st.1⟩ :: ow)
def FsOk (fs : List Fd) : Prop := ∀ f ∈ fs, f.l.length ≤ 520 ∧ f.n ≤ 9223372036854775807
theorem neW (a : Addr) (w : World) : (binOp .neq 34 (.pointer (some a)) (.pointer (some a))).run Try.prog w = .ok (.bool false) w := by
  obtain ⟨j, hj⟩ := Option.isSome_iff_exists.1 (show (Try.prog.info? 29).isSome = true by kernel_rfl)
  exact Lib.run_neq_ptr_same w a Try.underlying34 hj
theorem WrAt.drewN {W w : World} {bl : Bl} {ow : List Ro} {g : Nat} {st : List UInt8 × Int} (h : WrAt W bl ow g st w) (n : Nat) : WrAt W bl ow g st (w.drewN n) := by
  obtain ⟨v, h⟩ := h
  exact ⟨v, Mst.drewN h n⟩
theorem putB_l0 (st : List UInt8 × Int) (f : Fd) (h : f.l.length = 0) : putB st (nf f.s f.n) = putB st f := by
  obtain ⟨s, n, A, c, l⟩ := f
  obtain rfl : l = [] := List.eq_nil_of_length_eq_zero h
  rfl
def outF (f : Fd) : List UInt8 := outB f.s f.n f.l
theorem puts_ok : ∀ (fs : List Fd) (st : List UInt8 × Int), st.2 = 0 → (putsB st fs).2 = 0 → (putsB st fs).1 = st.1 ++ fs.flatMap outF ∧ ∀ f ∈ fs, chkB f.s f.n f.l.length = 0
  | [], st, _, _ => by simp [putsB]
  | f :: fs, st, h0, h => by
    have e : putsB st (f :: fs) = putsB (putB st f) fs := rfl
    rw [e] at h ⊢
    by_cases hp : (putB st f).2 = 0
    · obtain ⟨h1, h2⟩ := puts_ok fs _ hp h
      have hc : chkB f.s f.n f.l.length = 0 := by
        by_cases hc : chkB f.s f.n f.l.length = 0
        · exact hc
        · rw [putB_err h0 hc] at hp
          exact absurd hp hc
      have hl : ¬ 1024 < st.1.length + (outB f.s f.n f.l).length := by
        intro hl
        rw [putB_long h0 hc hl] at hp
        exact absurd hp (show ¬ ((2 : Int) = 0) by decide)
      refine ⟨?_, fun x hx => ?_⟩
      · rw [h1, putB_ok h0 hc hl]
        simp [outF]
      · rcases List.mem_cons.1 hx with rfl | hx
        · exact hc
        · exact h2 x hx
    · rw [putsB_stuck _ _ hp] at h
      exact absurd h hp
theorem rdF {w : World} {A : Option Addr} {fs : List Fd} (h : Rd w w.heap.size 3 A fs.length (fcs fs)) {k : Nat} {f : Fd} (hk : fs[k]? = some f) :
    ∃ b o, A = some ⟨b, o, none⟩ ∧ b < w.heap.size ∧ w.cell? ⟨b, o + k * 3, none⟩ = some (.int .i64 f.s) ∧ w.cell? ⟨b, o + k * 3 + 1, none⟩ = some (.int .i64 f.n) ∧ w.cell? ⟨b, o + k * 3 + 2, none⟩ = some (.slice f.A f.l.length f.c) := by
  have hlt := (List.getElem?_eq_some_iff.1 hk).1
  obtain ⟨b, o, e, hb, hc⟩ := h.2 (by omega)
  obtain ⟨h1, h2, h3⟩ := fcs_get hk
  exact ⟨b, o, e, hb, hc _ _ h1, by rw [Nat.add_assoc]; exact hc _ _ h2, by rw [Nat.add_assoc]; exact hc _ _ h3⟩
theorem rdFb {w : World} {b o : Nat} {fs : List Fd} (h : Rd w w.heap.size 3 (some ⟨b, o, none⟩) fs.length (fcs fs)) {k : Nat} {f : Fd} (hk : fs[k]? = some f) :
    w.cell? ⟨b, o + k * 3, none⟩ = some (.int .i64 f.s) ∧ w.cell? ⟨b, o + k * 3 + 1, none⟩ = some (.int .i64 f.n) ∧ w.cell? ⟨b, o + k * 3 + 2, none⟩ = some (.slice f.A f.l.length f.c) := by
  obtain ⟨b', o', e, _, h1⟩ := rdF h hk
  obtain ⟨rfl, rfl⟩ : b = b' ∧ o = o' := by simpa using e
  exact h1
theorem RrX.drew {W w : World} {xb : Bl} {xr : List Ro} {bl : Bl} {ow : List Ro} {g : Nat} {st : RS} (h : RrX W xb xr bl ow g st w) : RrX W xb xr bl ow g st w.drew := h.below (Below.refl _ _).drew
theorem RrX.src {W w : World} {xb : Bl} {xr : List Ro} {bl : Bl} {ow : List Ro} {g : Nat} {st : RS} (h : RrX W xb xr bl ow g st w) {size n : Nat} {A : Option Addr} {xs : List Value} (hs : Src W bl ow size A n xs) : Rd w w.heap.size size A n xs := by
  obtain ⟨A', c, m, _⟩ := h
  exact m.src (hs.sub (fun x hx => List.mem_cons_of_mem _ (List.mem_append_right _ hx)) (fun y hy => List.mem_append_right _ hy))
theorem RrX.row {W w : World} {xb : Bl} {xr : List Ro} {bl : Bl} {ow : List Ro} {g : Nat} {st : RS} {e : TypeId} {size n c : Nat} {A : Option Addr} {xs : List Value} (h : RrX W xb (⟨e, size, .slice A n c, n, xs⟩ :: xr) bl ow g st w) : Rd w w.heap.size size A n xs := by
  obtain ⟨A', c', m, _⟩ := h
  exact m.src (m.rowSrc (List.mem_cons_self ..))
theorem RrX.rowB {W w : World} {xb : Bl} {xr : List Ro} {bl : Bl} {ow : List Ro} {g : Nat} {st : RS} {e : TypeId} {c : Nat} {A : Option Addr} {l : List UInt8} (h : RrX W xb (⟨e, 1, .slice A l.length c, l.length, by8 l⟩ :: xr) bl ow g st w) : RB w w.heap.size A l := h.row
theorem RrX.srcB {W w : World} {xb : Bl} {xr : List Ro} {bl : Bl} {ow : List Ro} {g : Nat} {st : RS} (h : RrX W xb xr bl ow g st w) {A : Option Addr} {l : List UInt8} (hs : Src W bl ow 1 A l.length (by8 l)) : RB w w.heap.size A l := h.src hs
theorem flds_fd {W : World} : ∀ fs : List (Int × Int × Rw), (∀ f ∈ fs, in64 f.1 ∧ in64 f.2.1 ∧ f.2.2.ok .u8 W) → ∃ gs : List Fd, fcs gs = fs.flatMap f3 ∧ gs.length = fs.length ∧ ∀ g ∈ gs, RB W W.heap.size g.A g.l ∧ g.l.length ≤ g.c ∧ g.c ≤ 9223372036854775807 ∧ g.n ≤ 9223372036854775807
  | [], _ => ⟨[], rfl, rfl, by simp⟩
  | (s, n, x) :: fs, h => by
    obtain ⟨gs, h1, h2, h3⟩ := flds_fd fs fun f hf => h f (List.mem_cons_of_mem _ hf)
    obtain ⟨_, hn, ok⟩ := h (s, n, x) (List.mem_cons_self ..)
    obtain ⟨l, e1, e2⟩ := bytes_of x.zs ok.wf
    have hrd := ok.rd
    have hle := ok.le
    have hcap := ok.cap
    rw [e1] at hrd
    rw [← e2] at hrd hle
    refine ⟨⟨s, n, x.A, x.c, l⟩ :: gs, ?_, by simp [h2], fun g hg => ?_⟩
    · have e : fcs (⟨s, n, x.A, x.c, l⟩ :: gs) = [.int .i64 s, .int .i64 n, .slice x.A l.length x.c] ++ fcs gs := rfl
      rw [e, h1, e2]
      rfl
    · rcases List.mem_cons.1 hg with rfl | hg
      · exact ⟨hrd, hle, by unfold maxLen at hcap; exact hcap, hn.2⟩
      · exact h3 g hg
theorem fsOk_cut {gs fs : List Fd} {N : Nat} (hfl : fs.length = N) (hN : N ≤ gs.length) (hcut : ∀ (i : Nat) (g f : Fd), gs[i]? = some g → fs[i]? = some f → cutF g f) (hin : ∀ g ∈ gs, g.n ≤ 9223372036854775807) : FsOk fs := by
  intro f hf
  obtain ⟨i, hi⟩ := List.mem_iff_getElem?.1 hf
  have hlt := (List.getElem?_eq_some_iff.1 hi).1
  obtain ⟨g, hg⟩ : ∃ g, gs[i]? = some g := ⟨_, List.getElem?_eq_getElem (by omega)⟩
  obtain ⟨_, h2, h3⟩ := hcut i g f hg hi
  refine ⟨?_, by rw [h2]; exact hin g (List.mem_of_getElem? hg)⟩
  rw [h3]
  simp
  omega

set_option maxRecDepth 100000 in
set_option maxHeartbeats 3200000 in
theorem wirePuts_main (W : World) (gs : List Fd) (A : Option Addr) (c : Nat) (hgs : Rd W W.heap.size 3 A gs.length (fcs gs)) (hb : ∀ g ∈ gs, RB W W.heap.size g.A g.l ∧ g.l.length ≤ g.c ∧ g.c ≤ 9223372036854775807)
    (hin : ∀ g ∈ gs, g.n ≤ 9223372036854775807) (hn : gs.length ≤ 9223372036854775807) :
    Calls Try.prog 3 #[.slice A gs.length c] W fun e W' => e = .returned (.bool true) ∧ Below W.heap.size W W' := by
  obtain ⟨N, hN⟩ : ∃ N, N = min gs.length 12 := ⟨_, rfl⟩
  have HT := Lib.hid (to04_any W W [] [] (Mst.start W) gs A c (Src.old hgs) (fun g hg => ⟨Src.old (hb g hg).1, (hb g hg).2⟩) hn N hN)
  have HN := Lib.hid hN
  have HIN := Lib.hid hin
  clear hgs hb hin hN
  go_enter Try.func3, Try.ntmps3
  go_wp2_with fail
  refine HT.out.mono ?_
  rintro e w1 ⟨v, rfl, fs, hfl, hcut, m⟩
  have hok := fsOk_cut hfl (by have := HN.out; omega) hcut HIN.out
  obtain ⟨A1, c1, rfl, -⟩ := own_form (Mst.row [] m)
  subst hfl
  have h12 : fs.length ≤ 12 := by have := HN.out; omega
  have SM := m.rowSrc (List.mem_cons_self ..)
  have HO := Lib.hid (of04_any W w1 [] _ m fs A1 c1 SM h12)
  have HOK := Lib.hid hok
  clear m SM HT HN HIN hcut hok
  go_wp2_with fail
  refine HO.out.mono ?_
  rintro e w2 ⟨v, rfl, m⟩
  obtain ⟨A2, c2, rfl, -⟩ := own_form (Mst.row [] m)
  obtain ⟨ow, hM, S1, S2, SB⟩ : ∃ ow, Mst W w2 [] ow ∧ Src W [] ow 3 A1 fs.length (fcs fs) ∧ Src W [] ow 3 A2 fs.length (fcs fs) ∧ ∀ f ∈ fs, Src W [] ow 1 f.A f.l.length (by8 f.l) :=
    ⟨_, m, m.rowSrc (List.mem_cons_of_mem _ (List.mem_cons_self ..)), m.rowSrc (List.mem_cons_self ..), fun f hf => m.rowSrc (c := f.c) (List.mem_cons_of_mem _ (List.mem_cons_of_mem _ (List.mem_append_left _ (List.mem_map.2 ⟨f, by simpa using hf, rfl⟩))))⟩
  have m3 := (hM.new 29 #[.slice none 0 0, .int .i64 0]).new 29 #[.slice none 0 0, .int .i64 0]
  rw [show (w2.alloc (.cells #[.slice none 0 0, .int .i64 0] 29)).heap.size = w2.heap.size + 1 from by simp] at m3
  have M3 := Lib.hid m3
  have H1 := Lib.hid S1
  have H2 := Lib.hid S2
  have H3 := Lib.hid SB
  clear HO m hM m3 S1 S2 SB
  obtain ⟨g5, hg5⟩ : ∃ g, w2.heap.size = g := ⟨_, rfl⟩
  rw [hg5] at M3
  go_upto_block 0 with fail
  clear hg5
  obtain ⟨bl, hbl⟩ : ∃ bl : Bl, [(g5 + 1, 29, #[Value.slice none 0 0, .int .i64 0]), (g5, 29, #[.slice none 0 0, .int .i64 0])] = bl := ⟨_, rfl⟩
  rw [hbl] at M3
  have HBL := Lib.hid hbl
  clear hbl
  go_cut [7, 8] (fun s7 s8 w => LpRel W bl ow (putsB ([], 0) fs) s7 s8 w)
  case first =>
    go_wp2_with fail
    go_loopg [7, 8, 9] fs.length (fun gg s7 s8 s9 wr => ∃ k : Nat, k + gg = fs.length ∧ s9 = .int .i64 k ∧ LpRel W bl ow (putsB ([], 0) (fs.take k)) s7 s8 wr)
    case atStart => exact ⟨0, by omega, rfl, rfl, M3.out.nilrow _ _⟩
    case round =>
      obtain ⟨k, hk, rfl, rfl, m⟩ := hrel
      obtain ⟨st, hst⟩ : ∃ x, putsB ([], 0) (fs.take k) = x := ⟨_, rfl⟩
      have hkl : st.1.length ≤ 1024 := by rw [← hst]; exact putsB_len _ _ (by decide)
      rw [hst] at m ⊢
      obtain ⟨Ak, ck, rfl, -⟩ := own_form (m.row [])
      have HS := Lib.hid hst
      by_cases hlt : k < fs.length
      · by_cases he : st.2 = 0
        · obtain ⟨f, hf⟩ : ∃ f, fs[k]? = some f := ⟨_, List.getElem?_eq_getElem hlt⟩
          have hfm := List.mem_of_getElem? hf
          obtain ⟨hf1, hf2⟩ := HOK.out f hfm
          have NX : Hid (putsB ([], 0) (fs.take (k + 1)) = putB st f) := by
            show _ = _
            rw [putsB_snoc _ fs k f hf, HS.out]
          obtain ⟨b, o, rfl, hbl, d0, d1, d2⟩ := srcF m (H2.out.sub (by simp) (fun y hy => List.mem_cons_of_mem _ hy)) hf
          have HB := Lib.hid (H3.out f hfm)
          have HF := Lib.hid hf
          have HE := Lib.hid he
          have hSRC := Lib.hid (fun (w' : World) (ow' : List Ro) (hm : Mst W w' bl ow') (h2 : ∀ y ∈ ow, y ∈ ow') => srcC hm (H2.out.sub (by simp) h2) hf)
          have M := Lib.hid m
          have i1 : (k : Int) < (fs.length : Int) := by omega
          have i2 : (0 : Int) ≤ (k : Int) := by omega
          rw [he]
          clear m hst hf hfm he
          go_wp2_with fail
          refine (refcheck_any _ _ hf2 _ _ _ _).mono ?_
          rintro e w3 ⟨rfl, hb3⟩
          have m3 := M.out.below hb3
          obtain ⟨d0, d1, d2⟩ := hSRC.out _ _ m3 (fun y hy => List.mem_cons_of_mem _ hy)
          have M3 := Lib.hid m3
          clear m3 hb3
          by_cases hch : chkB f.s f.n f.l.length = 0
          · have HC := Lib.hid hch
            rw [hch]
            clear hch
            obtain ⟨L, hL⟩ : ∃ L, (outB f.s f.n f.l).length = L := ⟨_, rfl⟩
            have hlo : L ≤ 528 := by have := outB_length f.s f.n f.l; omega
            go_wp2_with fail
            refine (refout_any f _ HC.out hf2 (M3.out.src ((HB.out.sub (by simp) (fun y hy => List.mem_cons_of_mem _ hy))))).mono ?_
            rintro e w4 ⟨v4, rfl, hf4⟩
            rw [hL] at hf4
            obtain ⟨A4, c4, rfl, -⟩ := own_form hf4.own
            have m4 := M3.out.addr hf4
            obtain ⟨d0, d1, d2⟩ := hSRC.out _ _ m4 (fun y hy => List.mem_cons_of_mem _ (List.mem_cons_of_mem _ hy))
            have M4 := Lib.hid m4
            have HLL := Lib.hid hL
            clear m4 hf4 hL
            by_cases hlong : 1024 < st.1.length + L
            · have NY : Hid (putsB ([], 0) (fs.take (k + 1)) = (st.1, 2)) := by
                show _ = _
                rw [NX.out, putB_long HE.out HC.out (by rw [HLL.out]; exact hlong)]
              go_wp2_with fail
              go_roundg (fs.length - (k + 1))
              case measure => exact (by omega)
              case rel => exact ⟨k + 1, by omega, by go_num, by rw [NY.out]; exact ⟨rfl, M4.out.dropr⟩⟩
            · have NY : Hid (putsB ([], 0) (fs.take (k + 1)) = (st.1 ++ outB f.s f.n f.l, 0)) := by
                show _ = _
                rw [NX.out, putB_ok HE.out HC.out (by rw [HLL.out]; exact hlong)]
              go_wp2_with fail
              refine (refout_any f _ HC.out hf2 (M4.out.src ((HB.out.sub (by simp) (fun y hy => List.mem_cons_of_mem _ (List.mem_cons_of_mem _ hy)))))).mono ?_
              rintro e w5 ⟨v5, rfl, hf5⟩
              rw [HLL.out] at hf5
              obtain ⟨A5, c5, rfl, -⟩ := own_form hf5.own
              have M5 := Lib.hid (M4.out.addr hf5)
              clear hf5
              go_wp2_with (at_builtin; refine wpList_appM rfl _ _ 26 rfl [_, _] M5.out el_u8 rfl _ _ _ _ (by8 (outB f.s f.n f.l)) rfl (own_rd (M5.out.row [])) (by8_one _) (by unfold maxLen; omega) (by omega) ?_; intro A6 c6 w6 s6; have S6 := Lib.hid s6; clear s6)
              go_roundg (fs.length - (k + 1))
              case measure => exact (by omega)
              case rel =>
                refine ⟨k + 1, by omega, by go_num, ?_⟩
                rw [NY.out]
                refine ⟨rfl, ?_⟩
                show Mst ..
                rw [List.length_append, by8_append, HLL.out]
                exact S6.out.dropr.dropr
          · have hch' : (chkB f.s f.n f.l.length == 0) = false := by rw [beq_eq_false_iff_ne]; exact hch
            have NY : Hid (putsB ([], 0) (fs.take (k + 1)) = (st.1, chkB f.s f.n f.l.length)) := by
              show _ = _
              rw [NX.out, putB_err HE.out hch]
            obtain ⟨C, hC⟩ : ∃ C, chkB f.s f.n f.l.length = C := ⟨_, rfl⟩
            rw [hC] at hch' NY ⊢
            clear hch hC
            go_wp2_with fail
            go_roundg (fs.length - (k + 1))
            case measure => exact (by omega)
            case rel => exact ⟨k + 1, by omega, by go_num, by rw [NY.out]; exact ⟨rfl, M3.out⟩⟩
        · have he' : (st.2 == 0) = false := by rw [beq_eq_false_iff_ne]; exact he
          have HX : Hid (LpRel W bl ow (putsB ([], 0) fs) (.slice Ak st.1.length ck) (.int .i64 st.2) wr) := by
            show LpRel ..
            rw [putsB_stuck_at _ fs k (by rw [HS.out]; exact he), HS.out]
            exact ⟨rfl, m⟩
          have i1 : (k : Int) < (fs.length : Int) := by omega
          clear m hst he
          go_wp2_with fail
          go_meet
          exact HX.out
      · have HX : Hid (LpRel W bl ow (putsB ([], 0) fs) (.slice Ak st.1.length ck) (.int .i64 st.2) wr) := by
          show LpRel ..
          have e : fs.take k = fs := List.take_of_length_le (by omega)
          rw [e] at hst
          rw [hst]
          exact ⟨rfl, m⟩
        have i1 : ¬ ((k : Int) < (fs.length : Int)) := by omega
        clear m hst
        go_wp2_with fail
        go_meet
        exact HX.out
  case rest =>
    obtain ⟨st, hst⟩ : ∃ x, putsB ([], 0) fs = x := ⟨_, rfl⟩
    have hkl : st.1.length ≤ 1024 := by rw [← hst]; exact putsB_len _ _ (by decide)
    rw [hst] at hcut
    obtain ⟨rfl, m⟩ := hcut
    obtain ⟨Ak, ck, rfl, -⟩ := own_form (m.row [])
    rw [← HBL.out] at m
    have hW : Wr W wc [(g5 + 1, 29, #[.slice none 0 0, .int .i64 0])] (⟨5, 1, .slice Ak st.1.length ck, st.1.length, by8 st.1⟩ :: ow) g5 ([], 0) (.slice none 0 0) := (m.perm (List.Perm.swap _ _ _) (List.Perm.refl _)).nilrow _ _
    have HP := Lib.hid (put_any W wc _ _ g5 _ _ hW fs A1 c1 (H1.out.sub (by simp) (fun y hy => List.mem_cons_of_mem _ hy)) (fun f hf => (H3.out f hf).sub (by simp) (fun y hy => List.mem_cons_of_mem _ hy)) (fun f hf => ⟨by have := (HOK.out f hf).1; omega, (HOK.out f hf).2⟩) (by decide) (by unfold maxLen; omega))
    rw [hst] at HP
    have HS := Lib.hid hst
    clear hst hW m HBL M3 bl
    go_wp2_with fail
    refine HP.out.mono ?_
    rintro e w3 ⟨rfl, h3⟩
    have HW := Lib.hid h3
    have hpe := neW ⟨g5, 0, none⟩
    clear h3 HP
    go_wp2_with fail
    refine (wout_any W _ _ _ g5 _ HW.out hkl).mono ?_
    rintro e w4 ⟨v, v2, rfl, m⟩
    obtain ⟨B, hB⟩ : ∃ B, (if st.2 = 0 then st.1 else []) = B := ⟨_, rfl⟩
    rw [hB] at m
    obtain ⟨Ab, cb, rfl, -⟩ := own_form (m.row [])
    have m2 := m.perm (List.Perm.swap _ _ _) (List.Perm.refl _)
    obtain ⟨ow2, bx, hW, SB, SA, SX, SY, SF⟩ : ∃ (ow2 : List Ro) (bx : Bl), WrAt W bx ow2 (g5 + 1) ([], 0) w4 ∧ Src W bx ow2 1 Ab B.length (by8 B) ∧ Src W bx ow2 1 Ak st.1.length (by8 st.1) ∧ Src W bx ow2 3 A1 fs.length (fcs fs) ∧ Src W bx ow2 3 A2 fs.length (fcs fs) ∧ ∀ f ∈ fs, Src W bx ow2 1 f.A f.l.length (by8 f.l) := by
      have hs : ∀ y ∈ ow, y ∈ (⟨5, 1, .slice Ab B.length cb, B.length, by8 B⟩ :: ⟨5, 1, v, st.1.length, by8 st.1⟩ :: ⟨5, 1, .slice Ak st.1.length ck, st.1.length, by8 st.1⟩ :: ow : List Ro) := fun y hy => List.mem_cons_of_mem _ (List.mem_cons_of_mem _ (List.mem_cons_of_mem _ hy))
      exact ⟨_, [(g5, 29, #[v, .int .i64 st.2])], ⟨_, m2.nilrow _ _⟩, m2.dropb.rowSrc (List.mem_cons_self ..), m2.dropb.rowSrc (List.mem_cons_of_mem _ (List.mem_cons_of_mem _ (List.mem_cons_self ..))), H1.out.sub (by simp) hs, H2.out.sub (by simp) hs, fun f hf => (H3.out f hf).sub (by simp) hs⟩
    clear H1 H2 H3 hpe
    have HB0 := Lib.hid hB
    have H1 := Lib.hid SX
    have H2 := Lib.hid SY
    have H3 := Lib.hid SF
    have HA := Lib.hid SA
    have HBB := Lib.hid SB
    have HW0 := Lib.hid hW
    clear hW SB SA SX SY SF m m2 HW hB
    clear ow
    go_wp2_with fail
    go_loopg [12] fs.length (fun gg s12 wr => ∃ k : Nat, k + gg = fs.length ∧ s12 = .int .i64 k ∧ WrAt W bx ow2 (g5 + 1) (putsB ([], 0) (fs.take k)) wr)
    case atStart => exact ⟨0, by omega, rfl, HW0.out⟩
    case round =>
      obtain ⟨k, hk, rfl, hr⟩ := hrel
      obtain ⟨sk, hsk⟩ : ∃ x, putsB ([], 0) (fs.take k) = x := ⟨_, rfl⟩
      have hskl : sk.1.length ≤ 1024 := by rw [← hsk]; exact putsB_len _ _ (by decide)
      rw [hsk] at hr
      have HK := Lib.hid hsk
      by_cases hlt : k < fs.length
      · obtain ⟨f, hf⟩ : ∃ f, fs[k]? = some f := ⟨_, List.getElem?_eq_getElem hlt⟩
        have hfm := List.mem_of_getElem? hf
        obtain ⟨hf1, hf2⟩ := HOK.out f hfm
        have NX : Hid (putsB ([], 0) (fs.take (k + 1)) = putB sk f) := by
          show _ = _
          rw [putsB_snoc _ fs k f hf, HK.out]
        obtain ⟨vv, hv⟩ := hr
        obtain ⟨b, o, rfl, hbl, d0, d1, d2⟩ := srcF (hv : Mst ..) (H1.out.sub (fun x hx => List.mem_cons_of_mem _ hx) (fun y hy => List.mem_cons_of_mem _ hy)) hf
        obtain ⟨b', o', rfl, hbl', d0', d1', d2'⟩ := srcF (hv : Mst ..) (H2.out.sub (fun x hx => List.mem_cons_of_mem _ hx) (fun y hy => List.mem_cons_of_mem _ hy)) hf
        have hCell := Lib.hid (fun (w' : World) (h : WrAt W bx ow2 (g5 + 1) sk w') => show (w'.cell? ⟨b, o + k * 3, none⟩ = some (.int .i64 f.s) ∧ w'.cell? ⟨b, o + k * 3 + 1, none⟩ = some (.int .i64 f.n) ∧ w'.cell? ⟨b, o + k * 3 + 2, none⟩ = some (.slice f.A f.l.length f.c)) ∧ (w'.cell? ⟨b', o' + k * 3, none⟩ = some (.int .i64 f.s) ∧ w'.cell? ⟨b', o' + k * 3 + 1, none⟩ = some (.int .i64 f.n) ∧ w'.cell? ⟨b', o' + k * 3 + 2, none⟩ = some (.slice f.A f.l.length f.c)) from by
          obtain ⟨vv, hv⟩ := h
          exact ⟨srcC (hv : Mst ..) (H1.out.sub (fun x hx => List.mem_cons_of_mem _ hx) (fun y hy => List.mem_cons_of_mem _ hy)) hf, srcC (hv : Mst ..) (H2.out.sub (fun x hx => List.mem_cons_of_mem _ hx) (fun y hy => List.mem_cons_of_mem _ hy)) hf⟩)
        have hCell2 := Lib.hid (fun (w' : World) (s' : List UInt8 × Int) (h : WrAt W bx ow2 (g5 + 1) s' w') => show w'.cell? ⟨b, o + k * 3, none⟩ = some (.int .i64 f.s) ∧ w'.cell? ⟨b, o + k * 3 + 1, none⟩ = some (.int .i64 f.n) ∧ w'.cell? ⟨b, o + k * 3 + 2, none⟩ = some (.slice f.A f.l.length f.c) from by
          obtain ⟨vv, hv⟩ := h
          exact srcC (hv : Mst ..) (H1.out.sub (fun x hx => List.mem_cons_of_mem _ hx) (fun y hy => List.mem_cons_of_mem _ hy)) hf)
        have hRB := Lib.hid (fun (w' : World) (h : WrAt W bx ow2 (g5 + 1) sk w') => show RB w' w'.heap.size f.A f.l from by
          obtain ⟨vv, hv⟩ := h
          exact (show Mst .. from hv).src ((H3.out f hfm).sub (fun x hx => List.mem_cons_of_mem _ hx) (fun y hy => List.mem_cons_of_mem _ hy)))
        have HR := Lib.hid (show WrAt W bx ow2 (g5 + 1) sk wr from ⟨vv, hv⟩)
        have HFM := Lib.hid hfm
        have i1 : (k : Int) < (fs.length : Int) := by omega
        have i2 : (0 : Int) ≤ (k : Int) := by omega
        clear hv hf hfm hsk
        go_wp2_with fail
        go_region_held3 (fun w' => w'.cell? ⟨b, o + k * 3, none⟩ = some (.int .i64 f.s) ∧ w'.cell? ⟨b, o + k * 3 + 1, none⟩ = some (.int .i64 f.n) ∧ w'.cell? ⟨b, o + k * 3 + 2, none⟩ = some (.slice f.A f.l.length f.c) ∧ w'.cell? ⟨b', o' + k * 3, none⟩ = some (.int .i64 f.s) ∧ w'.cell? ⟨b', o' + k * 3 + 1, none⟩ = some (.int .i64 f.n) ∧ w'.cell? ⟨b', o' + k * 3 + 2, none⟩ = some (.slice f.A f.l.length f.c))
          (first | go_keep | (refine ⟨?_, ?_, ?_, ?_, ?_, ?_⟩ <;> assumption))
          (first
            | ((with_reducible refine (check_any _ _ _ _ _ _).mono ?_); rintro e w5 ⟨rfl, hb5⟩; have hr := (show WrAt W bx ow2 (g5 + 1) sk w5 from by first | exact HR.out.below hb5 | exact HR.out.drew.below hb5 | exact (HR.out.drewN _).below hb5); obtain ⟨⟨x0, x1, x2⟩, y0, y1, y2⟩ := hCell.out w5 hr; have HR := Lib.hid hr; clear hr hb5)
            | ((with_reducible refine (refcheck_any _ _ hf2 _ _ _ _).mono ?_); rintro e w5 ⟨rfl, hb5⟩; have hr := (show WrAt W bx ow2 (g5 + 1) sk w5 from by first | exact HR.out.below hb5 | exact HR.out.drew.below hb5 | exact (HR.out.drewN _).below hb5); obtain ⟨⟨x0, x1, x2⟩, y0, y1, y2⟩ := hCell.out w5 hr; have HR := Lib.hid hr; clear hr hb5)
            | ((with_reducible refine (wsame_eq f.s f.n f.A f.A f.c f.c f.l _ (by first | exact hRB.out _ HR.out | exact hRB.out _ HR.out.drew | exact hRB.out _ (HR.out.drewN _)) (by first | exact hRB.out _ HR.out | exact hRB.out _ HR.out.drew | exact hRB.out _ (HR.out.drewN _))).mono ?_); rintro e w5 ⟨rfl, hb5⟩; have hr := (show WrAt W bx ow2 (g5 + 1) sk w5 from by first | exact HR.out.below hb5 | exact HR.out.drew.below hb5 | exact (HR.out.drewN _).below hb5); obtain ⟨⟨x0, x1, x2⟩, y0, y1, y2⟩ := hCell.out w5 hr; have HR := Lib.hid hr; clear hr hb5))
        clear d0 d1 d2 d0' d1' d2' y0 y1 y2
        have hbl2 : b < w5.heap.size := block_lt_of_cell x0
        by_cases hs4 : f.s = 4 ∧ f.n = 0
        · obtain ⟨e4, e0⟩ := hs4
          have HQ := Lib.hid (show putsB sk [bf f.A f.c f.l] = putB sk f by obtain ⟨s', n', A', c', l'⟩ := f; simp only at e4 e0; subst e4 e0; rfl)
          have HSF := Lib.hid ((H3.out f HFM.out).cb (w5.heap.size, 26, #[.slice f.A f.l.length f.c]))
          have HRN := Lib.hid (HR.out.newb 26 #[.slice f.A f.l.length f.c])
          rw [e4] at x0
          rw [e0] at x1
          clear e4 e0
          go_wp2_with fail
          refine (wbytes_any W _ _ ow2 _ sk HRN.out [bf f.A f.c f.l] (some ⟨w5.heap.size, 0, none⟩) _ (Src.blk (g := w5.heap.size) (t := 26) (cs := #[.slice f.A f.l.length f.c]) (by simp) rfl) (by intro f' hf'; simp only [List.mem_singleton] at hf'; subst hf'; exact ⟨rfl, rfl, by show f.l.length ≤ _; omega, HSF.out⟩) hskl (by simp [maxLen])).mono ?_
          rintro e w6 ⟨rfl, h6⟩
          rw [HQ.out] at h6
          have HX := Lib.hid h6.dropb
          clear h6
          go_wp2_with fail
          go_roundg (fs.length - (k + 1))
          case measure => exact (by omega)
          case rel => exact ⟨k + 1, by omega, by go_num, by rw [NX.out]; exact HX.out⟩
        · have HPT := Lib.hid (fun (t : TypeId) (c : Nat) => put_one W w5 bx ow2 _ sk HR.out f (H3.out f HFM.out) ⟨by omega, hf2⟩ hskl t c)
          have HNB := Lib.hid (fun (c : Nat) => num_blk (s := f.s) (c := c) (HR.out.newb 3 #[.int .i64 f.n]).drew (List.mem_cons_self ..) hf2 hskl)
          have HQ := Lib.hid (putB_l0 sk f)
          by_cases e4 : f.s = 4
          · have hn1 : ¬ f.n = 0 := fun h => hs4 ⟨e4, h⟩
            have hn0 : (f.n == 0) = false := by rw [beq_eq_false_iff_ne]; exact hn1
            clear hs4
            rw [e4] at x0
            have hCellP := Lib.hid (fun (w' : World) (h : WrAt W bx ow2 (g5 + 1) (putB sk f) w') => show (w'.cell? ⟨b, o + k * 3, none⟩ = some (.int .i64 4) ∧ w'.cell? ⟨b, o + k * 3 + 1, none⟩ = some (.int .i64 f.n) ∧ w'.cell? ⟨b, o + k * 3 + 2, none⟩ = some (.slice f.A f.l.length f.c)) ∧ True from by have := (hCell2.out w' _ h); rw [e4] at this; exact ⟨this, trivial⟩)
            by_cases hl0 : f.l.length = 0
            · rw [HQ.out hl0, e4] at HNB
              rw [hl0] at x2 hCellP
              clear HQ HPT
              go_wp2_with fail
              go_region_held3 (fun w' => w'.cell? ⟨b, o + k * 3, none⟩ = some (.int .i64 4) ∧ w'.cell? ⟨b, o + k * 3 + 1, none⟩ = some (.int .i64 f.n) ∧ w'.cell? ⟨b, o + k * 3 + 2, none⟩ = some (.slice f.A 0 f.c))
                (first | go_keep | (refine ⟨?_, ?_, ?_⟩ <;> assumption))
                (first
                  | ((with_reducible refine (HNB.out _).mono ?_); rintro e w6 ⟨rfl, h6⟩; have hx := h6.dropb; obtain ⟨⟨x0, x1, x2⟩, _⟩ := hCellP.out w6 hx; have HX := Lib.hid hx; clear h6 hx))
              go_wp2_with fail
              go_roundg (fs.length - (k + 1))
              case measure => exact (by omega)
              case rel => exact ⟨k + 1, by omega, by go_num, by rw [NX.out]; exact HX.out⟩
            · have hl1 : (f.l.length == 0) = false := by rw [beq_eq_false_iff_ne]; exact hl0
              rw [e4] at HPT
              clear HQ HNB
              go_wp2_with fail
              refine (HPT.out _ _).mono ?_
              rintro e w6 ⟨rfl, h6⟩
              have HX := Lib.hid h6
              clear h6 x0 x1 x2
              go_wp2_with fail
              go_roundg (fs.length - (k + 1))
              case measure => exact (by omega)
              case rel => exact ⟨k + 1, by omega, by go_num, by rw [NX.out]; exact HX.out⟩
          · have e4' : (f.s == 4) = false := by rw [beq_eq_false_iff_ne]; exact e4
            clear hs4
            have hCellP := Lib.hid (fun (w' : World) (h : WrAt W bx ow2 (g5 + 1) (putB sk f) w') => show (w'.cell? ⟨b, o + k * 3, none⟩ = some (.int .i64 f.s) ∧ w'.cell? ⟨b, o + k * 3 + 1, none⟩ = some (.int .i64 f.n) ∧ w'.cell? ⟨b, o + k * 3 + 2, none⟩ = some (.slice f.A f.l.length f.c)) ∧ True from ⟨hCell2.out w' _ h, trivial⟩)
            by_cases hl0 : f.l.length = 0
            · rw [HQ.out hl0] at HNB
              rw [hl0] at x2 hCellP
              clear HQ HPT
              go_wp2_with fail
              go_region_held3 (fun w' => w'.cell? ⟨b, o + k * 3, none⟩ = some (.int .i64 f.s) ∧ w'.cell? ⟨b, o + k * 3 + 1, none⟩ = some (.int .i64 f.n) ∧ w'.cell? ⟨b, o + k * 3 + 2, none⟩ = some (.slice f.A 0 f.c))
                (first | go_keep | (refine ⟨?_, ?_, ?_⟩ <;> assumption))
                (first
                  | ((with_reducible refine (HNB.out _).mono ?_); rintro e w6 ⟨rfl, h6⟩; have hx := h6.dropb; obtain ⟨⟨x0, x1, x2⟩, _⟩ := hCellP.out w6 hx; have HX := Lib.hid hx; clear h6 hx))
              go_wp2_with fail
              go_roundg (fs.length - (k + 1))
              case measure => exact (by omega)
              case rel => exact ⟨k + 1, by omega, by go_num, by rw [NX.out]; exact HX.out⟩
            · have hl1 : (f.l.length == 0) = false := by rw [beq_eq_false_iff_ne]; exact hl0
              clear HQ HNB
              go_wp2_with fail
              refine (HPT.out _ _).mono ?_
              rintro e w6 ⟨rfl, h6⟩
              have HX := Lib.hid h6
              clear h6 x0 x1 x2
              go_wp2_with fail
              go_roundg (fs.length - (k + 1))
              case measure => exact (by omega)
              case rel => exact ⟨k + 1, by omega, by go_num, by rw [NX.out]; exact HX.out⟩
      · have e : fs.take k = fs := List.take_of_length_le (by omega)
        rw [e, HS.out] at hsk
        subst hsk
        have HR := Lib.hid hr
        have i1 : ¬ ((k : Int) < (fs.length : Int)) := by omega
        clear hr HK e
        go_wp2_with fail
        refine (wout_any W _ _ _ (g5 + 1) _ HR.out hkl).mono ?_
        rintro e w5 ⟨v5, v6, rfl, m⟩
        rw [HB0.out] at m
        obtain ⟨Ac, cc, rfl, -⟩ := own_form (m.row [])
        have hBl : B.length ≤ 1024 := by
          rw [← HB0.out]
          split
          · exact hkl
          · simp
        obtain ⟨bl3, ow3, m3, SC, SB, SA, SX, SF⟩ : ∃ (bl3 : Bl) (ow3 : List Ro), Mst W w5 bl3 ow3 ∧ Src W bl3 ow3 1 Ac B.length (by8 B) ∧ Src W bl3 ow3 1 Ab B.length (by8 B) ∧ Src W bl3 ow3 1 Ak st.1.length (by8 st.1) ∧ Src W bl3 ow3 3 A1 fs.length (fcs fs) ∧ ∀ f ∈ fs, Src W bl3 ow3 1 f.A f.l.length (by8 f.l) := by
          have hx : ∀ x ∈ bx, x ∈ ((g5 + 1, 29, #[v5, .int .i64 st.2]) :: bx : Bl) := fun x hx => List.mem_cons_of_mem _ hx
          have hy : ∀ y ∈ ow2, y ∈ (⟨5, 1, .slice Ac B.length cc, B.length, by8 B⟩ :: ⟨5, 1, v5, st.1.length, by8 st.1⟩ :: ow2 : List Ro) := fun y hy => List.mem_cons_of_mem _ (List.mem_cons_of_mem _ hy)
          exact ⟨_, _, m, m.rowSrc (List.mem_cons_self ..), HBB.out.sub hx hy, HA.out.sub hx hy, H1.out.sub hx hy, fun f hf => (H3.out f hf).sub hx hy⟩
        have HSM := Lib.hid (same_yes Ab Ac cb cc B w5 (m3.src SB) (m3.src SC) (by unfold maxLen; omega))
        have M3 := Lib.hid m3
        have HB := Lib.hid SB
        have HA' := Lib.hid SA
        have HX := Lib.hid SX
        have HF := Lib.hid SF
        clear m m3 SC SB SA SX SF H1 H2 H3 HA HBB HW0 HR
        go_wp2_with fail
        refine HSM.out.mono ?_
        rintro e w6 ⟨rfl, hb6⟩
        have M6 := Lib.hid (M3.out.below hb6)
        clear hb6 M3 HSM
        by_cases he : st.2 = 0
        · have hB := HB0.out
          rw [if_pos he] at hB
          subst hB
          obtain ⟨hb1, hchk⟩ := puts_ok fs ([], 0) rfl (by rw [HS.out]; exact he)
          rw [HS.out, List.nil_append] at hb1
          have HCK := Lib.hid hchk
          have HB1 := Lib.hid hb1
          have he' : (st.2 != 0) = false := by rw [he]; rfl
          clear hb1 hchk
          go_wp2_with fail
          refine (new_any W w6 _ _ M6.out Ab cb st.1 (M6.out.src HB.out) (by omega)).mono ?_
          rintro e w7 ⟨g, A7, c7, rfl, _, r7⟩
          rw [show newR st.1 = (fs.flatMap outF, 0) by unfold newR; rw [if_neg (by omega), HB1.out]] at r7
          obtain ⟨ow7, hs7, r7⟩ : ∃ ow7 : List Ro, (∀ y ∈ ow3, y ∈ ow7) ∧ RrX W [] [] bl3 ow7 g (fs.flatMap outF, 0) w7 := ⟨_, fun y hy => List.mem_cons_of_mem _ hy, r7⟩
          have R7 := Lib.hid r7
          have HS7 := Lib.hid hs7
          clear r7 hs7 M6
          go_wp2_with fail
          go_loopg [16] fs.length (fun gg s16 wr => ∃ k : Nat, k + gg = fs.length ∧ s16 = .int .i64 k ∧ RrX W [] [] bl3 ow7 g ((fs.drop k).flatMap outF, 0) wr)
          case atStart => exact ⟨0, by omega, rfl, R7.out⟩
          case round =>
            obtain ⟨k2, hk2, rfl, hr⟩ := hrel
            by_cases hlt2 : k2 < fs.length
            · obtain ⟨f, hf⟩ : ∃ f, fs[k2]? = some f := ⟨_, List.getElem?_eq_getElem hlt2⟩
              have hfm := List.mem_of_getElem? hf
              obtain ⟨hf1, hf2⟩ := HOK.out f hfm
              have hd : (fs.drop k2).flatMap outF = outB f.s f.n f.l ++ (fs.drop (k2 + 1)).flatMap outF := by
                rw [List.drop_eq_getElem_cons hlt2, List.flatMap_cons]
                have := (List.getElem?_eq_some_iff.1 hf).2
                rw [this]
                rfl
              obtain ⟨q1, q2⟩ := get_out f.s f.n f.l ((fs.drop (k2 + 1)).flatMap outF) (HCK.out f hfm) hf2
              rw [hd] at hr
              have HG := Lib.hid (fun (w' : World) (h : RrX W [] [] bl3 ow7 g (outB f.s f.n f.l ++ (fs.drop (k2 + 1)).flatMap outF, 0) w') => show Calls Try.prog 28 #[.pointer (some ⟨g, 0, none⟩), .int .i64 f.s] w' fun e w2 => ∃ A c, e = .returned (.agg #[.int .i64 f.s, .int .i64 f.n, .slice A f.l.length c]) ∧ RrX W [] (⟨5, 1, .slice A f.l.length c, f.l.length, by8 f.l⟩ :: []) bl3 ow7 g ((fs.drop (k2 + 1)).flatMap outF, 0) w2 from by
                have := get_any W w' [] [] bl3 ow7 g _ h f.s
                unfold GetPost at this
                rw [q1, q2] at this
                exact this)
              obtain ⟨b, o, rfl, hbl, d0, d1, d2⟩ := rdF (hr.src (HX.out.sub (fun _ h => h) HS7.out)) hf
              have hCx := Lib.hid (fun (w' : World) (xr : List Ro) (s' : RS) (h : RrX W [] xr bl3 ow7 g s' w') => rdFb (h.src (HX.out.sub (fun _ h => h) HS7.out)) hf)
              have hFs := Lib.hid ((HF.out f hfm).sub (fun _ h => h) HS7.out)
              have HR := Lib.hid hr
              have i3 : (k2 : Int) < (fs.length : Int) := by omega
              have i4 : (0 : Int) ≤ (k2 : Int) := by omega
              clear hr hf hfm hd q1 q2
              go_wp2_with fail
              go_region_held3 (fun w' => w'.cell? ⟨b, o + k2 * 3, none⟩ = some (.int .i64 f.s) ∧ w'.cell? ⟨b, o + k2 * 3 + 1, none⟩ = some (.int .i64 f.n) ∧ w'.cell? ⟨b, o + k2 * 3 + 2, none⟩ = some (.slice f.A f.l.length f.c))
                (first | go_keep | (refine ⟨?_, ?_, ?_⟩ <;> assumption))
                (first
                  | ((with_reducible refine (HG.out _ (by first | exact HR.out | exact HR.out.drew)).mono ?_); rintro e w8 ⟨A8, c8, rfl, h8⟩; obtain ⟨x0, x1, x2⟩ := hCx.out w8 _ _ h8; have H8 := Lib.hid h8; clear h8)
                  | ((with_reducible refine (wsame_eq f.s f.n A8 f.A c8 f.c f.l _ H8.out.rowB (H8.out.srcB hFs.out)).mono ?_); rintro e w9 ⟨rfl, hb9⟩; have h9 := (by first | exact H8.out.below hb9 | exact H8.out.drew.below hb9 : RrX W [] [_] bl3 ow7 g _ w9); obtain ⟨x0, x1, x2⟩ := hCx.out w9 _ _ h9; have H9 := Lib.hid h9.dropr; clear h9 hb9))
              all_goals (
                go_wp2_with fail
                go_roundg (fs.length - (k2 + 1))
                case measure => exact (by omega)
                case rel => exact ⟨k2 + 1, by omega, by go_num, H9.out⟩)
            · rw [List.drop_eq_nil_of_le (by omega)] at hr
              have R8 := Lib.hid (show RrX W [] [] bl3 ow7 g ([], 0) wr from hr)
              have i3 : ¬ ((k2 : Int) < (fs.length : Int)) := by omega
              clear hr R7
              go_wp2_with fail
              refine (known04 _).mono ?_
              rintro e w8 ⟨rfl, hb8⟩
              have R9 := Lib.hid (R8.out.below hb8)
              clear hb8
              go_wp2_with fail
              refine (same_yes Ab Ak cb ck st.1 _ (R9.out.src (HB.out.sub (fun _ h => h) HS7.out)) (R9.out.src (HA'.out.sub (fun _ h => h) HS7.out)) (by unfold maxLen; omega)).mono ?_
              rintro e w9 ⟨rfl, hb9⟩
              have R10 := Lib.hid (R9.out.below hb9)
              clear hb9
              go_wp2_with fail
              refine (end_any W _ [] [] bl3 ow7 g _ R10.out).mono ?_
              rintro e w10 ⟨rfl, rfl⟩
              rw [show endR ([], 0) = 0 by decide]
              go_wp2_with fail
              refine (left_any W _ [] [] bl3 ow7 g _ R10.out).mono ?_
              rintro e w10 ⟨rfl, rfl⟩
              have HZ := Lib.hid (show Below W.heap.size W w9 from by obtain ⟨A', c', h1, _⟩ := R10.out; exact h1.bel)
              go_wp2_with fail
              go_ret
              exact ⟨rfl, HZ.out⟩
        · have he' : (st.2 != 0) = true := by simpa using he
          have hB := HB0.out
          rw [if_neg he] at hB
          subst hB
          go_wp2_with fail
          refine (known04 _).mono ?_
          rintro e w7 ⟨rfl, hb7⟩
          have HZ := Lib.hid (M6.out.below hb7).bel
          clear hb7
          go_wp2_with fail
          go_ret
          exact ⟨rfl, HZ.out⟩

theorem contract_wirePuts (W : World) (v0 : Value) (a0 : ∃ A c, ∃ fs : List (Int × Int × Rw), v0 = .slice A fs.length c ∧ fs.length ≤ c ∧ c ≤ maxLen ∧ Rd W W.heap.size 3 A fs.length (fs.flatMap f3) ∧ ∀ f ∈ fs, in64 f.1 ∧ in64 f.2.1 ∧ f.2.2.ok .u8 W) :
    Calls Try.prog 3 #[v0] W fun e W' => e = .returned (.bool true) ∧ Below W.heap.size W W' := by
  obtain ⟨A, c, fs, rfl, h1, h2, h3, h4⟩ := a0
  obtain ⟨gs, e1, e2, e3⟩ := flds_fd fs h4
  rw [← e1, ← e2] at h3
  rw [← e2] at h1 ⊢
  exact wirePuts_main W gs A c h3 (fun g hg => ⟨(e3 g hg).1, (e3 g hg).2.1, (e3 g hg).2.2.1⟩) (fun g hg => (e3 g hg).2.2.2) (by unfold maxLen at h2; omega)
end Go.Proofs.Ythnaobolmgcclaa
