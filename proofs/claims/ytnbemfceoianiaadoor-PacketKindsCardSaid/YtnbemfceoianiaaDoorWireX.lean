/- Contracts of package wire: Writer.Number, Writer.Out. -/
import Derived.Test.YtnbemfceoianiaaDoorWireW
namespace Go.Proofs.YtnbemfceoianiaaDoor
set_option linter.unusedVariables false
open Go.RowKit

section
variable {W w w' : World} {bl : Bl} {ow : List Ro} {g : Nat} {st : List UInt8 × Int} {v : Value}
/-- A block more beside the writer. -/
theorem Wr.newb (h : Wr W w bl ow g st v) (t : TypeId) (cs : Array Value) : Wr W (w.alloc (.cells cs t)) ((w.heap.size, t, cs) :: bl) ow g st v := (Mst.new h t cs).perm (List.Perm.swap _ _ _) (List.Perm.refl _)
theorem WrAt.dropb {x : Nat × TypeId × Array Value} (h : WrAt W (x :: bl) ow g st w) : WrAt W bl ow g st w := by
  obtain ⟨v, h⟩ := h
  exact ⟨v, Mst.sub h (List.Sublist.cons_cons _ (List.sublist_cons_self _ _)) (List.Sublist.refl _)⟩
theorem Wr.below (h : Wr W w bl ow g st v) (hb : Below w.heap.size w w') : Wr W w' bl ow g st v := Mst.below h hb
theorem WrAt.below (h : WrAt W bl ow g st w) (hb : Below w.heap.size w w') : WrAt W bl ow g st w' := by
  obtain ⟨v, h⟩ := h
  exact ⟨v, h.below hb⟩
end

/-- A number as a field. -/
def nf (s n : Int) : Fd := ⟨s, n, none, 0, []⟩
theorem srcOne {W : World} {bl : Bl} {ow : List Ro} {g : Nat} {t : TypeId} (f : Fd) (c : Nat) : Src W ((g, t, #[.int .i64 f.s, .int .i64 f.n, .slice f.A f.l.length f.c]) :: bl) ow 3 (some ⟨g, 0, none⟩) [f].length (fcs [f]) := by
  have := Src.blk (W := W) (bl := (g, t, #[Value.int .i64 f.s, .int .i64 f.n, .slice f.A f.l.length f.c]) :: bl) (ow := ow) (size := 3) (n := 1) (g := g) (t := t) (cs := #[.int .i64 f.s, .int .i64 f.n, .slice f.A f.l.length f.c]) (List.mem_cons_self ..) rfl
  exact this

/-- One field, out of a block that was made for it. -/
theorem put_one (W w : World) (bl : Bl) (ow : List Ro) (g : Nat) (st : List UInt8 × Int) (hW : WrAt W bl ow g st w) (f : Fd) (hb : Src W bl ow 1 f.A f.l.length (by8 f.l)) (hf : f.wf) (hlen : st.1.length ≤ 1024) (t : TypeId) (c : Nat) :
    Calls Tryd.prog 28 #[.pointer (some ⟨g, 0, none⟩), .slice (some ⟨w.heap.size, 0, none⟩) 1 c] (w.alloc (.cells #[.int .i64 f.s, .int .i64 f.n, .slice f.A f.l.length f.c] t)) (WrPost W bl ow g (putB st f)) := by
  obtain ⟨v, hW⟩ := hW
  exact (put_any W _ _ ow g st v (hW.newb t _) [f] (some ⟨w.heap.size, 0, none⟩) c (srcOne f c) (by simpa using hb.cb _) (by simpa using hf) hlen (by simp [maxLen])).mono fun e w' ⟨he, h⟩ => ⟨he, h.dropb⟩

theorem ints_at {W w : World} {bl : Bl} {ow : List Ro} {A : Option Addr} {ns : List Int} (h : Mst W w bl ow) (hs : Src W bl ow 1 A ns.length (ns.map (.int .i64))) {k : Nat} {n : Int} (hk : ns[k]? = some n) :
    ∃ b o, A = some ⟨b, o, none⟩ ∧ b < w.heap.size ∧ w.cell? ⟨b, o + k, none⟩ = some (.int .i64 n) := by
  have hlt := (List.getElem?_eq_some_iff.1 hk).1
  obtain ⟨b, o, e, hb, hc⟩ := (h.src hs).2 (by omega)
  exact ⟨b, o, e, hb, hc _ _ (by simp [hk])⟩

set_option maxRecDepth 100000 in
set_option maxHeartbeats 1600000 in
theorem numbers_any (W w : World) (bl : Bl) (ow : List Ro) (g : Nat) (st : List UInt8 × Int) (hW : WrAt W bl ow g st w) (s : Int) (ns : List Int) (A : Option Addr) (c : Nat)
    (hns : Src W bl ow 1 A ns.length (ns.map (.int .i64))) (hwf : ∀ n ∈ ns, n ≤ 9223372036854775807) (hlen : st.1.length ≤ 1024) (hm : ns.length ≤ maxLen) :
    Calls Tryd.prog 21 #[.pointer (some ⟨g, 0, none⟩), .int .i64 s, .slice A ns.length c] w (WrPost W bl ow g (putsB st (ns.map (nf s)))) := by
  unfold maxLen at hm
  have H0 := Lib.hid hW
  have H1 := Lib.hid hns
  have H3 := Lib.hid hwf
  have H4 := Lib.hid hlen
  clear hW hns hwf hlen
  go_enter Tryd.func21, Tryd.ntmps21
  go_wp2_with fail
  go_loopg [11] ns.length (fun gg s11 wr => ∃ k : Nat, k + gg = ns.length ∧ s11 = .int .i64 k ∧ WrAt W bl ow g (putsB st ((ns.map (nf s)).take k)) wr)
  case atStart => exact ⟨0, by omega, rfl, H0.out⟩
  case round =>
    obtain ⟨k, hk, rfl, hr⟩ := hrel
    have HR := Lib.hid hr
    by_cases hlt : k < ns.length
    · obtain ⟨n, hn⟩ : ∃ n, ns[k]? = some n := ⟨_, List.getElem?_eq_getElem hlt⟩
      obtain ⟨vk, hv⟩ := hr
      obtain ⟨b, o, rfl, hbl, d0⟩ := ints_at (hv : Mst ..) ((H1.out.cb _).cr _) hn
      have hnb := H3.out n (List.mem_of_getElem? hn)
      have NX : Hid (putsB st ((ns.map (nf s)).take (k + 1)) = putB (putsB st ((ns.map (nf s)).take k)) (nf s n)) := by
        show _ = _
        rw [putsB_snoc st (ns.map (nf s)) k (nf s n) (by simp [hn])]
      clear hv hn
      have i1 : (k : Int) < (ns.length : Int) := by omega
      have i2 : (0 : Int) ≤ (k : Int) := by omega
      go_wp2_with fail
      refine (put_one W wr bl ow g _ HR.out (nf s n) (Src.nil_ _ _ _ _ _) ⟨by simp [nf], hnb⟩ (putsB_len _ _ H4.out) _ _).mono ?_
      rintro e w1 ⟨rfl, h1⟩
      have HX := Lib.hid h1
      clear h1 d0
      go_wp2_with fail
      go_roundg (ns.length - (k + 1))
      case measure => exact meas hk hlt
      case rel => exact ⟨k + 1, meas2 hlt, by go_num, by rw [NX.out]; exact HX.out⟩
    · clear hr
      have HX : Hid (WrAt W bl ow g (putsB st (ns.map (nf s))) wr) := by
        show WrAt ..
        have : (ns.map (nf s)).take k = ns.map (nf s) := List.take_of_length_le (by simp; omega)
        rw [← this]
        exact HR.out
      go_wp2
      go_ret
      exact ⟨rfl, HX.out⟩

/-- What a writer hands out. -/
def OutPost (W : World) (bl : Bl) (ow : List Ro) (g : Nat) (st : List UInt8 × Int) (en : Ending) (w' : World) : Prop :=
  ∃ v v2, en = .returned (.tuple #[v2, .int .i64 st.2]) ∧
    Mst W w' ((g, 58, #[v, .int .i64 st.2]) :: bl) (⟨5, 1, v2, (if st.2 = 0 then st.1 else []).length, by8 (if st.2 = 0 then st.1 else [])⟩ :: ⟨5, 1, v, st.1.length, by8 st.1⟩ :: ow)

set_option maxRecDepth 100000 in
set_option maxHeartbeats 1600000 in
theorem wout_any (W w : World) (bl : Bl) (ow : List Ro) (g : Nat) (st : List UInt8 × Int) (hW : WrAt W bl ow g st w) (hlen : st.1.length ≤ 1024) :
    Calls Tryd.prog 22 #[.pointer (some ⟨g, 0, none⟩)] w (OutPost W bl ow g st) := by
  obtain ⟨v, hW⟩ := hW
  obtain ⟨Ak, ck, rfl, _⟩ := own_form (Mst.row [] hW)
  have c0 := (Mst.blk [] hW).cell 0
  have c1 := (Mst.blk [] hW).cell 1
  simp at c0 c1
  have HR := Lib.hid (show Mst W w _ _ from hW)
  clear hW
  by_cases he : st.2 = 0
  · have he' : (st.2 != 0) = false := by rw [he]; rfl
    have HE := Lib.hid he
    clear he
    go_enter Tryd.func22, Tryd.ntmps22
    go_wp2_with fail
    refine (clone_any _ _ _ _ (own_rd (HR.out.row [])) (by omega)).mono ?_
    rintro e w1 ⟨v2, rfl, hf⟩
    have HX := Lib.hid (HR.out.addr hf)
    clear hf c0 c1
    go_wp2_with fail
    go_ret2
    refine ⟨.slice Ak st.1.length ck, v2, (by rw [HE.out]; rfl), ?_⟩
    rw [if_pos HE.out]
    exact HX.out
  · have he' : (st.2 != 0) = true := by simpa using he
    have HE := Lib.hid he
    clear he
    go_enter Tryd.func22, Tryd.ntmps22
    go_wp2_with fail
    go_quiet (fail)
    go_wp2
    go_ret2
    refine ⟨.slice Ak st.1.length ck, .slice none 0 0, rfl, ?_⟩
    rw [if_neg HE.out]
    exact (HR.out.drewN _).nilrow _ _
end Go.Proofs.YtnbemfceoianiaaDoor
