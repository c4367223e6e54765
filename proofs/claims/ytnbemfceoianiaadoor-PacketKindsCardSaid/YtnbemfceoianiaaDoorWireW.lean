/- Contracts of package wire: the writer. -/
import Derived.Test.YtnbemfceoianiaaDoorWireK
import Derived.Test.YtnbemfceoianiaaDoorBaseA
namespace Go.Proofs.YtnbemfceoianiaaDoor
set_option linter.unusedVariables false
open Go.RowKit

/-- A writer in block g: the bytes so far, the first error. -/
def Wr (W w : World) (bl : Bl) (ow : List Ro) (g : Nat) (st : List UInt8 × Int) (v : Value) : Prop :=
  Mst W w ((g, 58, #[v, .int .i64 st.2]) :: bl) (⟨5, 1, v, st.1.length, by8 st.1⟩ :: ow)
def WrAt (W : World) (bl : Bl) (ow : List Ro) (g : Nat) (st : List UInt8 × Int) (w : World) : Prop := ∃ v, Wr W w bl ow g st v
def WrPost (W : World) (bl : Bl) (ow : List Ro) (g : Nat) (st : List UInt8 × Int) (en : Ending) (w' : World) : Prop := en = .returned (.pointer (some ⟨g, 0, none⟩)) ∧ WrAt W bl ow g st w'

theorem srcF {W w : World} {bl : Bl} {ow : List Ro} {A : Option Addr} {fs : List Fd} (h : Mst W w bl ow) (hs : Src W bl ow 3 A fs.length (fcs fs)) {k : Nat} {f : Fd} (hk : fs[k]? = some f) :
    ∃ b o, A = some ⟨b, o, none⟩ ∧ b < w.heap.size ∧ w.cell? ⟨b, o + k * 3, none⟩ = some (.int .i64 f.s) ∧ w.cell? ⟨b, o + k * 3 + 1, none⟩ = some (.int .i64 f.n) ∧ w.cell? ⟨b, o + k * 3 + 2, none⟩ = some (.slice f.A f.l.length f.c) := by
  have hlt := (List.getElem?_eq_some_iff.1 hk).1
  obtain ⟨b, o, e, hb, hc⟩ := (h.src hs).2 (by omega)
  obtain ⟨h1, h2, h3⟩ := fcs_get hk
  exact ⟨b, o, e, hb, hc _ _ h1, by rw [Nat.add_assoc]; exact hc _ _ h2, by rw [Nat.add_assoc]; exact hc _ _ h3⟩

theorem putB_err {st : List UInt8 × Int} {f : Fd} (h : st.2 = 0) (h2 : chkB f.s f.n f.l.length ≠ 0) : putB st f = (st.1, chkB f.s f.n f.l.length) := by
  unfold putB; rw [if_neg (by simp [h]), if_pos h2]
theorem putB_long {st : List UInt8 × Int} {f : Fd} (h : st.2 = 0) (h2 : chkB f.s f.n f.l.length = 0) (h3 : 1024 < st.1.length + (outB f.s f.n f.l).length) : putB st f = (st.1, 2) := by
  unfold putB; rw [if_neg (by simp [h]), if_neg (by simp [h2]), if_pos h3]
theorem putB_ok {st : List UInt8 × Int} {f : Fd} (h : st.2 = 0) (h2 : chkB f.s f.n f.l.length = 0) (h3 : ¬ 1024 < st.1.length + (outB f.s f.n f.l).length) : putB st f = (st.1 ++ outB f.s f.n f.l, 0) := by
  unfold putB; rw [if_neg (by simp [h]), if_neg (by simp [h2]), if_neg h3]

set_option maxRecDepth 100000 in
set_option maxHeartbeats 3200000 in
theorem put_any (W w : World) (bl : Bl) (ow : List Ro) (g : Nat) (st : List UInt8 × Int) (v : Value) (hW : Wr W w bl ow g st v) (fs : List Fd) (A : Option Addr) (c : Nat)
    (hfs : Src W bl ow 3 A fs.length (fcs fs)) (hb : ∀ f ∈ fs, Src W bl ow 1 f.A f.l.length (by8 f.l)) (hwf : ∀ f ∈ fs, f.wf) (hlen : st.1.length ≤ 1024) (hm : fs.length ≤ maxLen) :
    Calls Tryd.prog 28 #[.pointer (some ⟨g, 0, none⟩), .slice A fs.length c] w (WrPost W bl ow g (putsB st fs)) := by
  unfold maxLen at hm
  have H0 := Lib.hid hW
  have H1 := Lib.hid hfs
  have H2 := Lib.hid hb
  have H3 := Lib.hid hwf
  have H4 := Lib.hid hlen
  clear hW hfs hb hwf hlen
  go_enter Tryd.func28, Tryd.ntmps28
  go_wp2_with fail
  go_step3
  go_wp2_with fail
  go_step3
  go_wp2_with fail
  go_loopg [12] fs.length (fun gg s12 wr => ∃ k : Nat, k + gg = fs.length ∧ s12 = .int .i64 k ∧ WrAt W bl ow g (putsB st (fs.take k)) wr)
  case atStart => exact ⟨0, by omega, rfl, _, H0.out⟩
  case round =>
    obtain ⟨k, hk, rfl, vk, hr⟩ := hrel
    obtain ⟨stk, hst⟩ : ∃ x, putsB st (fs.take k) = x := ⟨_, rfl⟩
    have hkl : stk.1.length ≤ 1024 := by rw [← hst]; exact putsB_len _ _ H4.out
    rw [hst] at hr
    obtain ⟨Ak, ck, rfl, _⟩ := own_form (hr.row [])
    have c0 := (hr.blk []).cell 0
    have c1 := (hr.blk []).cell 1
    have f0 := (hr.blk []).fr 0
    have f1 := (hr.blk []).fr 1
    simp at c0 c1
    have hg := (hr.blk []).lt
    have HR := Lib.hid (show Mst W wr _ _ from hr)
    have HS := Lib.hid hst
    by_cases hlt : k < fs.length
    · obtain ⟨f, hf⟩ : ∃ f, fs[k]? = some f := ⟨_, List.getElem?_eq_getElem hlt⟩
      obtain ⟨b, o, rfl, hbl, d0, d1, d2⟩ := srcF (hr : Mst ..) ((H1.out.cb _).cr _) hf
      have HF := Lib.hid hf
      have hfm : f ∈ fs := List.mem_of_getElem? hf
      obtain ⟨hfw, hfn⟩ := H3.out f hfm
      have HB := Lib.hid (H2.out f hfm)
      clear hr hst hf hfm
      have i1 : (k : Int) < (fs.length : Int) := by omega
      have i2 : (0 : Int) ≤ (k : Int) := by omega
      have NX : Hid (putsB st (fs.take (k + 1)) = putB stk f) := by
        show _ = _
        rw [putsB_snoc st fs k f HF.out, HS.out]
      by_cases he : stk.2 = 0
      · have he' : (stk.2 != 0) = false := by rw [he]; rfl
        have HE := Lib.hid he
        clear he
        go_wp2_with fail
        refine (wfcheck_any _ _ _ _ _ _).mono ?_
        rintro e w1 ⟨rfl, hb1⟩
        have m1 := (HR.out.new 76 #[.int .i64 f.s, .int .i64 f.n, .slice f.A f.l.length f.c]).below hb1
        have a0 := (m1.blk []).cell 0
        have a1 := (m1.blk []).cell 1
        have a2 := (m1.blk []).cell 2
        have g0 := (m1.blk [_]).cell 0
        have g1 := (m1.blk [_]).cell 1
        have q0 := (m1.blk [_]).fr 0
        have q1 := (m1.blk [_]).fr 1
        simp at a0 a1 a2 g0 g1
        have hg1 := (m1.blk [_]).lt
        have hg2 := (m1.blk []).lt
        have hne : g ≠ wr.heap.size := by omega
        have hne' : wr.heap.size ≠ g := by omega
        have HM := Lib.hid (m1.put [_] 1 (.int .i64 (chkB f.s f.n f.l.length)))
        clear hb1 m1 d0 d1 d2 c0 c1 f0 f1
        by_cases hch : chkB f.s f.n f.l.length = 0
        · have hch' : (chkB f.s f.n f.l.length != 0) = false := by rw [hch]; rfl
          have HC := Lib.hid hch
          have hlo : (outB f.s f.n f.l).length ≤ 1000008 := by have := outB_length f.s f.n f.l; omega
          clear hch
          go_wp2_with fail
          refine (wfout_any f _ HC.out hfn (HM.out.src ((HB.out.cb _).cb _ |>.cr _))).mono ?_
          rintro e w2 ⟨v2, rfl, hf2⟩
          obtain ⟨A2, c2, rfl, _⟩ := own_form hf2.own
          have m2 := HM.out.addr hf2
          have b0 := (m2.blk [_]).cell 0
          have b1 := (m2.blk [_]).cell 1
          have r0 := (m2.blk [_]).fr 0
          have r1 := (m2.blk [_]).fr 1
          simp at b0 b1
          have hg3 := (m2.blk [_]).lt
          have M2 := Lib.hid m2
          clear m2 hf2
          by_cases hlong : 1024 < stk.1.length + (outB f.s f.n f.l).length
          · have HX : Hid (WrAt W bl ow g (putsB st (fs.take (k + 1))) (w2.setCell ⟨g, 1, none⟩ (.int .i64 2))) := by
              show WrAt ..
              rw [NX.out, putB_long HE.out HC.out hlong]
              exact ⟨_, ((M2.out.put [_] 1 (.int .i64 2)).dropb).dropr⟩
            go_wp2_with fail
            go_roundg (fs.length - (k + 1))
            case measure => exact meas hk hlt
            case rel => exact ⟨k + 1, meas2 hlt, by go_num, HX.out⟩
          · go_wp2_with (at_builtin; refine wpList_appM rfl _ _ 30 rfl [_] M2.out el_u8 rfl _ _ _ _ (by8 (outB f.s f.n f.l)) rfl (own_rd (M2.out.row [])) (by8_one _) (by unfold maxLen; omega) (by omega) ?_; intro A5 c5 w5 s5; have f5 := (s5.blk [_]).fr 0; have e5 := (s5.blk [_]).cell 0; simp at e5; have S5 := Lib.hid s5; clear s5)
            have HX : Hid (WrAt W bl ow g (putsB st (fs.take (k + 1))) (w5.setCell ⟨g, 0, none⟩ (.slice A5 (stk.1.length + (outB f.s f.n f.l).length) c5))) := by
              show WrAt ..
              rw [NX.out, putB_ok HE.out HC.out hlong]
              have a := S5.out.put [_] 0 (.slice A5 (stk.1.length + (outB f.s f.n f.l).length) c5)
              rw [HC.out] at a
              refine ⟨.slice A5 (stk.1.length + (outB f.s f.n f.l).length) c5, ?_⟩
              show Mst ..
              rw [List.length_append, by8_append]
              exact a.dropb.dropr
            go_wp2_with fail
            go_roundg (fs.length - (k + 1))
            case measure => exact meas hk hlt
            case rel => exact ⟨k + 1, meas2 hlt, by go_num, HX.out⟩
        · have hch' : (chkB f.s f.n f.l.length != 0) = true := by simpa using hch
          have HX : Hid (WrAt W bl ow g (putsB st (fs.take (k + 1))) (w1.setCell ⟨g, 1, none⟩ (.int .i64 (chkB f.s f.n f.l.length)))) := by
            show WrAt ..
            rw [NX.out, putB_err HE.out hch]
            exact ⟨_, HM.out.dropb⟩
          clear hch
          go_wp2_with fail
          go_roundg (fs.length - (k + 1))
          case measure => exact meas hk hlt
          case rel => exact ⟨k + 1, meas2 hlt, by go_num, HX.out⟩
      · have he' : (stk.2 != 0) = true := by simpa using he
        have HX : Hid (WrAt W bl ow g (putsB st fs) (wr.alloc (.cells #[.int .i64 f.s, .int .i64 f.n, .slice f.A f.l.length f.c] 76))) := by
          show WrAt ..
          rw [putsB_stuck_at st fs k (by rw [HS.out]; exact he), HS.out]
          exact ⟨_, HR.out.alloc _⟩
        clear he
        go_wp2
        rw [Exit.noGoto_ret]
        go_ret
        exact ⟨rfl, HX.out⟩
    · have HX : Hid (WrAt W bl ow g (putsB st fs) wr) := by
        show WrAt ..
        have : fs.take k = fs := List.take_of_length_le (by omega)
        rw [← this, HS.out]
        exact ⟨_, HR.out⟩
      go_wp2
      rw [Exit.noGoto_ret]
      go_ret
      exact ⟨rfl, HX.out⟩
end Go.Proofs.YtnbemfceoianiaaDoor
