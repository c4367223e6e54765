/- The writer's Bytes at one field whose bytes are read at the call's start (they may lie in marked memory). Printed by genput1.py. -/
import Derived.Test.YtnbemfceoianiaaWireB
import Derived.Test.YtnbemfceoianiaaCl2
import Derived.Deep.RegionHeld
namespace Go.Proofs.Ytnbemfceoianiaa
set_option linter.unusedVariables false
open Go.RowKit

theorem Balc0 {w w1 : World} {o : Obj} (h : Below (w.alloc o).heap.size (w.alloc o) w1) : Below w.heap.size w w1 := ((Below.refl _ _).alloc (Nat.le_refl _) _).trans (h.mono (by simp))
theorem RB.set {w : World} {A : Option Addr} {l : List UInt8} {g i : Nat} {u : Value} (h : RB w w.heap.size A l) (hne : ∀ b o, A = some ⟨b, o, none⟩ → b ≠ g) : RB (w.setCell ⟨g, i, none⟩ u) (w.setCell ⟨g, i, none⟩ u).heap.size A l := by
  refine ⟨h.1, fun hn => ?_⟩
  obtain ⟨b, o, e, hb, hc⟩ := h.2 hn
  refine ⟨b, o, e, by simpa [World.setCell] using hb, fun j x hx => ?_⟩
  exact (World.cell?_setCell_far w ⟨g, i, none⟩ ⟨b, o + j, none⟩ u (fun hh => hne b o e hh.symm)).trans (hc j x hx)
theorem RB.alloc {w : World} {A : Option Addr} {l : List UInt8} (h : RB w w.heap.size A l) (o : Obj) : RB (w.alloc o) (w.alloc o).heap.size A l := (h.below ((Below.refl w.heap.size w).alloc (Nat.le_refl _) _)).more (by simp)
theorem WrAt.alloc {W w : World} {bl : Bl} {ow : List Ro} {g : Nat} {st : List UInt8 × Int} (h : WrAt W bl ow g st w) (o : Obj) : WrAt W bl ow g st (w.alloc o) := by
  obtain ⟨v, h⟩ := h
  exact ⟨v, Mst.alloc h o⟩
theorem WrAt.lt {W w : World} {bl : Bl} {ow : List Ro} {g : Nat} {st : List UInt8 × Int} (h : WrAt W bl ow g st w) : g < w.heap.size := by
  obtain ⟨v, h⟩ := h
  exact (Mst.blk [] h).lt

set_option maxRecDepth 100000 in
set_option maxHeartbeats 3200000 in
theorem put_first (W w : World) (bl : Bl) (ow : List Ro) (g : Nat) (st : List UInt8 × Int) (v : Value) (hW : Wr W w bl ow g st v) (fs : List Fd) (A : Option Addr) (c : Nat)
    (hfs : Src W bl ow 3 A fs.length (fcs fs)) (hl1 : fs.length ≤ 1) (hb : ∀ f ∈ fs, RB w w.heap.size f.A f.l ∧ ∀ b o, f.A = some ⟨b, o, none⟩ → b ≠ g) (hwf : ∀ f ∈ fs, f.wf) (hlen : st.1.length ≤ 1024) (hm : fs.length ≤ maxLen) :
    Calls Try.prog 63 #[.pointer (some ⟨g, 0, none⟩), .slice A fs.length c] w (WrPost W bl ow g (putsB st fs)) := by
  unfold maxLen at hm
  have H0 := Lib.hid hW
  have H1 := Lib.hid hfs
  have H2 := Lib.hid hb
  have H3 := Lib.hid hwf
  have H4 := Lib.hid hlen
  clear hW hfs hb hwf hlen
  go_enter Try.func63, Try.ntmps63
  go_wp2_with fail
  go_step3
  go_wp2_with fail
  go_step3
  go_wp2_with fail
  go_loopg [12] fs.length (fun gg s12 wr => ∃ k : Nat, k + gg = fs.length ∧ s12 = .int .i64 k ∧ WrAt W bl ow g (putsB st (fs.take k)) wr ∧ (k = 0 → wr = w))
  case atStart => exact ⟨0, by omega, rfl, ⟨_, H0.out⟩, fun _ => rfl⟩
  case round =>
    obtain ⟨k, hk, rfl, ⟨vk, hr⟩, hw0⟩ := hrel
    obtain ⟨stk, hst⟩ : ∃ x, putsB st (fs.take k) = x := ⟨_, rfl⟩
    have hkl : stk.1.length ≤ 1024 := by rw [← hst]; exact putsB_len _ _ H4.out
    rw [hst] at hr
    obtain ⟨Ak, ck, rfl, _⟩ := own_form (hr.row [])
    have c0 := (hr.blk []).cell 0
    have c1 := (hr.blk []).cell 1
    have f0 := (hr.blk []).fr 0
    have f1 := (hr.blk []).fr 1
    simp at c0 c1
    have hg := (hr.blk []).lt
    have HR := Lib.hid (show Mst W wr _ _ from hr)
    have HS := Lib.hid hst
    by_cases hlt : k < fs.length
    · obtain ⟨f, hf⟩ : ∃ f, fs[k]? = some f := ⟨_, List.getElem?_eq_getElem hlt⟩
      obtain ⟨b, o, rfl, hbl, d0, d1, d2⟩ := srcF (hr : Mst ..) ((H1.out.cb _).cr _) hf
      have HF := Lib.hid hf
      have hfm : f ∈ fs := List.mem_of_getElem? hf
      obtain ⟨hfw, hfn⟩ := H3.out f hfm
      have hB := H2.out f hfm
      rw [← hw0 (by omega)] at hB
      have HB := Lib.hid hB
      clear hB hw0
      clear hr hst hf hfm
      have i1 : (k : Int) < (fs.length : Int) := by omega
      have i2 : (0 : Int) ≤ (k : Int) := by omega
      have NX : Hid (putsB st (fs.take (k + 1)) = putB stk f) := by
        show _ = _
        rw [putsB_snoc st fs k f HF.out, HS.out]
      by_cases he : stk.2 = 0
      · have he' : (stk.2 != 0) = false := by rw [he]; rfl
        have HE := Lib.hid he
        clear he
        go_wp2_with fail
        refine (wfcheck_any _ _ _ _ _ _).mono ?_
        rintro e w1 ⟨rfl, hb1⟩
        have m1 := (HR.out.new 107 #[.int .i64 f.s, .int .i64 f.n, .slice f.A f.l.length f.c]).below hb1
        have a0 := (m1.blk []).cell 0
        have a1 := (m1.blk []).cell 1
        have a2 := (m1.blk []).cell 2
        have g0 := (m1.blk [_]).cell 0
        have g1 := (m1.blk [_]).cell 1
        have q0 := (m1.blk [_]).fr 0
        have q1 := (m1.blk [_]).fr 1
        simp at a0 a1 a2 g0 g1
        have hg1 := (m1.blk [_]).lt
        have hg2 := (m1.blk []).lt
        have hne : g ≠ wr.heap.size := by omega
        have hne' : wr.heap.size ≠ g := by omega
        have HM := Lib.hid (m1.put [_] 1 (.int .i64 (chkB f.s f.n f.l.length)))
        have HRB := Lib.hid (RB.set (g := g) (i := 1) (u := .int .i64 (chkB f.s f.n f.l.length)) ((HB.out.1.below (Balc0 hb1)).more (Balc0 hb1).size) HB.out.2)
        clear hb1 m1 d0 d1 d2 c0 c1 f0 f1
        by_cases hch : chkB f.s f.n f.l.length = 0
        · have hch' : (chkB f.s f.n f.l.length != 0) = false := by rw [hch]; rfl
          have HC := Lib.hid hch
          have hlo : (outB f.s f.n f.l).length ≤ 1000008 := by have := outB_length f.s f.n f.l; omega
          clear hch
          go_wp2_with fail
          refine (wfout_any f _ HC.out hfn HRB.out).mono ?_
          rintro e w2 ⟨v2, rfl, hf2⟩
          obtain ⟨A2, c2, rfl, _⟩ := own_form hf2.own
          have m2 := HM.out.addr hf2
          have b0 := (m2.blk [_]).cell 0
          have b1 := (m2.blk [_]).cell 1
          have r0 := (m2.blk [_]).fr 0
          have r1 := (m2.blk [_]).fr 1
          simp at b0 b1
          have hg3 := (m2.blk [_]).lt
          have M2 := Lib.hid m2
          clear m2 hf2
          by_cases hlong : 1024 < stk.1.length + (outB f.s f.n f.l).length
          · have HX : Hid (WrAt W bl ow g (putsB st (fs.take (k + 1))) (w2.setCell ⟨g, 1, none⟩ (.int .i64 2))) := by
              show WrAt ..
              rw [NX.out, putB_long HE.out HC.out hlong]
              exact ⟨_, ((M2.out.put [_] 1 (.int .i64 2)).dropb).dropr⟩
            go_wp2_with fail
            go_roundg (fs.length - (k + 1))
            case measure => exact meas hk hlt
            case rel => exact ⟨k + 1, meas2 hlt, by go_num, HX.out, fun h => absurd h (by omega)⟩
          · go_wp2_with (at_builtin; refine wpList_appM rfl _ _ 26 rfl [_] M2.out el_u8 rfl _ _ _ _ (by8 (outB f.s f.n f.l)) rfl (own_rd (M2.out.row [])) (by8_one _) (by unfold maxLen; omega) (by omega) ?_; intro A5 c5 w5 s5; have f5 := (s5.blk [_]).fr 0; have e5 := (s5.blk [_]).cell 0; simp at e5; have S5 := Lib.hid s5; clear s5)
            have HX : Hid (WrAt W bl ow g (putsB st (fs.take (k + 1))) (w5.setCell ⟨g, 0, none⟩ (.slice A5 (stk.1.length + (outB f.s f.n f.l).length) c5))) := by
              show WrAt ..
              rw [NX.out, putB_ok HE.out HC.out hlong]
              have a := S5.out.put [_] 0 (.slice A5 (stk.1.length + (outB f.s f.n f.l).length) c5)
              rw [HC.out] at a
              refine ⟨.slice A5 (stk.1.length + (outB f.s f.n f.l).length) c5, ?_⟩
              show Mst ..
              rw [List.length_append, by8_append]
              exact a.dropb.dropr
            go_wp2_with fail
            go_roundg (fs.length - (k + 1))
            case measure => exact meas hk hlt
            case rel => exact ⟨k + 1, meas2 hlt, by go_num, HX.out, fun h => absurd h (by omega)⟩
        · have hch' : (chkB f.s f.n f.l.length != 0) = true := by simpa using hch
          have HX : Hid (WrAt W bl ow g (putsB st (fs.take (k + 1))) (w1.setCell ⟨g, 1, none⟩ (.int .i64 (chkB f.s f.n f.l.length)))) := by
            show WrAt ..
            rw [NX.out, putB_err HE.out hch]
            exact ⟨_, HM.out.dropb⟩
          clear hch
          go_wp2_with fail
          go_roundg (fs.length - (k + 1))
          case measure => exact meas hk hlt
          case rel => exact ⟨k + 1, meas2 hlt, by go_num, HX.out, fun h => absurd h (by omega)⟩
      · have he' : (stk.2 != 0) = true := by simpa using he
        have HX : Hid (WrAt W bl ow g (putsB st fs) (wr.alloc (.cells #[.int .i64 f.s, .int .i64 f.n, .slice f.A f.l.length f.c] 107))) := by
          show WrAt ..
          rw [putsB_stuck_at st fs k (by rw [HS.out]; exact he), HS.out]
          exact ⟨_, HR.out.alloc _⟩
        clear he
        go_wp2
        rw [Exit.noGoto_ret]
        go_ret
        exact ⟨rfl, HX.out⟩
    · clear hw0
      have HX : Hid (WrAt W bl ow g (putsB st fs) wr) := by
        show WrAt ..
        have : fs.take k = fs := List.take_of_length_le (by omega)
        rw [← this, HS.out]
        exact ⟨_, HR.out⟩
      go_wp2
      rw [Exit.noGoto_ret]
      go_ret
      exact ⟨rfl, HX.out⟩
theorem put_one1 (W w : World) (bl : Bl) (ow : List Ro) (g : Nat) (st : List UInt8 × Int) (hW : WrAt W bl ow g st w) (f : Fd) (hb : RB w w.heap.size f.A f.l ∧ ∀ b o, f.A = some ⟨b, o, none⟩ → b ≠ g) (hf : f.wf) (hlen : st.1.length ≤ 1024) (t : TypeId) (c : Nat) :
    Calls Try.prog 63 #[.pointer (some ⟨g, 0, none⟩), .slice (some ⟨w.heap.size, 0, none⟩) 1 c] (w.alloc (.cells #[.int .i64 f.s, .int .i64 f.n, .slice f.A f.l.length f.c] t)) (WrPost W bl ow g (putB st f)) := by
  obtain ⟨v, hW⟩ := hW
  exact (put_first W _ _ ow g st v (hW.newb t _) [f] (some ⟨w.heap.size, 0, none⟩) c (srcOne f c) (by simp) (by intro f' hf'; simp only [List.mem_singleton] at hf'; subst hf'; exact ⟨hb.1.alloc _, hb.2⟩) (by simpa using hf) hlen (by simp [maxLen])).mono fun e w' ⟨he, h⟩ => ⟨he, h.dropb⟩

set_option maxRecDepth 100000 in
set_option maxHeartbeats 1600000 in
theorem wbytes_first (W w : World) (bl : Bl) (ow : List Ro) (g : Nat) (st : List UInt8 × Int) (hW : WrAt W bl ow g st w) (fs : List Fd) (A : Option Addr) (c : Nat)
    (hfs : Src W bl ow 1 A fs.length (bcs fs)) (hf : ∀ f ∈ fs, f.s = 4 ∧ f.n = 0 ∧ f.l.length ≤ 1000000 ∧ (RB w w.heap.size f.A f.l ∧ ∀ b o, f.A = some ⟨b, o, none⟩ → b ≠ g)) (hl1 : fs.length ≤ 1) (hlen : st.1.length ≤ 1024) (hm : fs.length ≤ maxLen) :
    Calls Try.prog 47 #[.pointer (some ⟨g, 0, none⟩), .slice A fs.length c] w (WrPost W bl ow g (putsB st fs)) := by
  unfold maxLen at hm
  have H0 := Lib.hid hW
  have H1 := Lib.hid hfs
  have H3 := Lib.hid hf
  have H4 := Lib.hid hlen
  clear hW hfs hf hlen
  go_enter Try.func47, Try.ntmps47
  go_wp2_with fail
  go_loopg [9] fs.length (fun gg s9 wr => ∃ k : Nat, k + gg = fs.length ∧ s9 = .int .i64 k ∧ WrAt W bl ow g (putsB st (fs.take k)) wr ∧ (k = 0 → wr = w))
  case atStart => exact ⟨0, by omega, rfl, H0.out, fun _ => rfl⟩
  case round =>
    obtain ⟨k, hk, rfl, hr, hw0⟩ := hrel
    have HR := Lib.hid hr
    by_cases hlt : k < fs.length
    · obtain ⟨f, hn⟩ : ∃ f, fs[k]? = some f := ⟨_, List.getElem?_eq_getElem hlt⟩
      obtain ⟨vk, hv⟩ := hr
      obtain ⟨b, o, rfl, hbl, d0⟩ := bcs_at (hv : Mst ..) ((H1.out.cb _).cr _) hn
      obtain ⟨e1, e2, e3, e4⟩ := H3.out f (List.mem_of_getElem? hn)
      have NX : Hid (putsB st (fs.take (k + 1)) = putB (putsB st (fs.take k)) f) := putsB_snoc st fs k f hn
      obtain ⟨fs', fn', fA, fc, fl⟩ := f
      simp only at e1 e2 e3 e4 d0
      subst e1 e2
      rw [← hw0 (by omega)] at e4
      have HF := Lib.hid e4
      clear hv hn e4 hw0
      have i1 : (k : Int) < (fs.length : Int) := by omega
      have i2 : (0 : Int) ≤ (k : Int) := by omega
      go_wp2_with fail
      refine (put_one1 W wr bl ow g _ HR.out (bf fA fc fl) HF.out ⟨e3, by simp [bf]⟩ (putsB_len _ _ H4.out) _ _).mono ?_
      rintro e w1 ⟨rfl, h1⟩
      have HX := Lib.hid h1
      clear h1 d0
      go_wp2_with fail
      go_roundg (fs.length - (k + 1))
      case measure => exact meas hk hlt
      case rel => exact ⟨k + 1, meas2 hlt, by go_num, by rw [NX.out]; exact HX.out, fun h => absurd h (by omega)⟩
    · clear hr hw0
      have HX : Hid (WrAt W bl ow g (putsB st fs) wr) := by
        show WrAt ..
        have : fs.take k = fs := List.take_of_length_le (by omega)
        rw [← this]
        exact HR.out
      go_wp2
      go_ret
      exact ⟨rfl, HX.out⟩

end Go.Proofs.Ytnbemfceoianiaa
