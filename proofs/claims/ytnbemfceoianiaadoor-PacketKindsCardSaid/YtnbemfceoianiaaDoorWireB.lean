/- Contracts of package wire: Writer.Bytes; what a nil writer and a nil reader do. -/
import Derived.Test.YtnbemfceoianiaaDoorWireX
import Derived.Test.YtnbemfceoianiaaDoorRdP
namespace Go.Proofs.YtnbemfceoianiaaDoor
set_option linter.unusedVariables false
open Go.RowKit

/-- Bytes as a field. -/
def bf (A : Option Addr) (c : Nat) (l : List UInt8) : Fd := ⟨4, 0, A, c, l⟩
def bcs (fs : List Fd) : List Value := fs.map fun f => .slice f.A f.l.length f.c
theorem bcs_at {W w : World} {bl : Bl} {ow : List Ro} {A : Option Addr} {fs : List Fd} (h : Mst W w bl ow) (hs : Src W bl ow 1 A fs.length (bcs fs)) {k : Nat} {f : Fd} (hk : fs[k]? = some f) :
    ∃ b o, A = some ⟨b, o, none⟩ ∧ b < w.heap.size ∧ w.cell? ⟨b, o + k, none⟩ = some (.slice f.A f.l.length f.c) := by
  have hlt := (List.getElem?_eq_some_iff.1 hk).1
  obtain ⟨b, o, e, hb, hc⟩ := (h.src hs).2 (by omega)
  exact ⟨b, o, e, hb, hc _ _ (by simp [bcs, hk])⟩

set_option maxRecDepth 100000 in
set_option maxHeartbeats 1600000 in
theorem wbytes_any (W w : World) (bl : Bl) (ow : List Ro) (g : Nat) (st : List UInt8 × Int) (hW : WrAt W bl ow g st w) (fs : List Fd) (A : Option Addr) (c : Nat)
    (hfs : Src W bl ow 1 A fs.length (bcs fs)) (hf : ∀ f ∈ fs, f.s = 4 ∧ f.n = 0 ∧ f.l.length ≤ 1000000 ∧ Src W bl ow 1 f.A f.l.length (by8 f.l)) (hlen : st.1.length ≤ 1024) (hm : fs.length ≤ maxLen) :
    Calls Tryd.prog 23 #[.pointer (some ⟨g, 0, none⟩), .slice A fs.length c] w (WrPost W bl ow g (putsB st fs)) := by
  unfold maxLen at hm
  have H0 := Lib.hid hW
  have H1 := Lib.hid hfs
  have H3 := Lib.hid hf
  have H4 := Lib.hid hlen
  clear hW hfs hf hlen
  go_enter Tryd.func23, Tryd.ntmps23
  go_wp2_with fail
  go_loopg [9] fs.length (fun gg s9 wr => ∃ k : Nat, k + gg = fs.length ∧ s9 = .int .i64 k ∧ WrAt W bl ow g (putsB st (fs.take k)) wr)
  case atStart => exact ⟨0, by omega, rfl, H0.out⟩
  case round =>
    obtain ⟨k, hk, rfl, hr⟩ := hrel
    have HR := Lib.hid hr
    by_cases hlt : k < fs.length
    · obtain ⟨f, hn⟩ : ∃ f, fs[k]? = some f := ⟨_, List.getElem?_eq_getElem hlt⟩
      obtain ⟨vk, hv⟩ := hr
      obtain ⟨b, o, rfl, hbl, d0⟩ := bcs_at (hv : Mst ..) ((H1.out.cb _).cr _) hn
      obtain ⟨e1, e2, e3, e4⟩ := H3.out f (List.mem_of_getElem? hn)
      have NX : Hid (putsB st (fs.take (k + 1)) = putB (putsB st (fs.take k)) f) := putsB_snoc st fs k f hn
      obtain ⟨fs', fn', fA, fc, fl⟩ := f
      simp only at e1 e2 e3 e4 d0
      subst e1 e2
      have HF := Lib.hid e4
      clear hv hn e4
      have i1 : (k : Int) < (fs.length : Int) := by omega
      have i2 : (0 : Int) ≤ (k : Int) := by omega
      go_wp2_with fail
      refine (put_one W wr bl ow g _ HR.out (bf fA fc fl) HF.out ⟨e3, by simp [bf]⟩ (putsB_len _ _ H4.out) _ _).mono ?_
      rintro e w1 ⟨rfl, h1⟩
      have HX := Lib.hid h1
      clear h1 d0
      go_wp2_with fail
      go_roundg (fs.length - (k + 1))
      case measure => exact meas hk hlt
      case rel => exact ⟨k + 1, meas2 hlt, by go_num, by rw [NX.out]; exact HX.out⟩
    · clear hr
      have HX : Hid (WrAt W bl ow g (putsB st fs) wr) := by
        show WrAt ..
        have : fs.take k = fs := List.take_of_length_le (by omega)
        rw [← this]
        exact HR.out
      go_wp2
      go_ret
      exact ⟨rfl, HX.out⟩

set_option maxHeartbeats 400000 in
theorem put_nil (v : Value) (A : Option Addr) (n c : Nat) (hv : v = .slice A n c) (w : World) : Calls Tryd.prog 28 #[.pointer none, v] w fun e w' => e = .returned (.pointer none) ∧ w = w' := by
  subst hv
  go_enter Tryd.func28, Tryd.ntmps28
  go_wp2_with fail
  go_step3
  go_wp2
  try rw [Exit.noGoto_ret]
  go_ret
  exact ⟨rfl, rfl⟩
set_option maxHeartbeats 400000 in
theorem out_nil (w : World) : Calls Tryd.prog 22 #[.pointer none] w fun e w' => e = .returned (.tuple #[.slice none 0 0, .int .i64 11]) ∧ w = w' := by
  go_enter Tryd.func22, Tryd.ntmps22
  go_wp2
  go_ret2
  exact ⟨rfl, rfl⟩

end Go.Proofs.YtnbemfceoianiaaDoor
