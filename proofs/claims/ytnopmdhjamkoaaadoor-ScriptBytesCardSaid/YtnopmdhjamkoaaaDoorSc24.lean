/- Contract of script.Bytes. -/
import Derived.Test.YtnopmdhjamkoaaaDoorSc23
namespace Go.Proofs.YtnopmdhjamkoaaaDoor
set_option linter.unusedVariables false
set_option linter.unusedSimpArgs false
open Go.RowKit

theorem WrAt.sub {W w : World} {bl bl' : Bl} {ow : List Ro} {g : Nat} {st : List UInt8 × Int} (h : WrAt W bl ow g st w) (hs : List.Sublist bl' bl) : WrAt W bl' ow g st w := by
  obtain ⟨v, h⟩ := h
  exact ⟨v, Mst.sub h (List.Sublist.cons_cons _ hs) (List.Sublist.refl _)⟩
theorem WrAt.new31 {W w w2 : World} {bl : Bl} {ow : List Ro} {g : Nat} {st : List UInt8 × Int} {t : TypeId} {cs : Array Value} (h : WrAt W bl ow g st w) (hw : w.alloc (.cells cs t) = w2) : ∃ gx, w.heap.size = gx ∧ WrAt W ((gx, t, cs) :: bl) ow g st w2 := by
  obtain ⟨v, h⟩ := h
  subst hw
  exact ⟨_, rfl, v, h.newb t cs⟩
theorem WrAt.drew31 {W w : World} {bl : Bl} {ow : List Ro} {g : Nat} {st : List UInt8 × Int} (h : WrAt W bl ow g st w) : WrAt W bl ow g st w.drew := by
  obtain ⟨v, h⟩ := h
  exact ⟨v, Mst.drew h⟩
theorem WrAt.bel31 {W w : World} {bl : Bl} {ow : List Ro} {g : Nat} {st : List UInt8 × Int} (h : WrAt W bl ow g st w) : Below W.heap.size W w := by
  obtain ⟨v, h⟩ := h
  exact Mst.bel h
theorem WrAt.cell31 {W w : World} {bl : Bl} {ow : List Ro} {g : Nat} {st : List UInt8 × Int} (h : WrAt W bl ow g st w) {b : Nat} {t : TypeId} {cs : Array Value} (hm : (b, t, cs) ∈ bl) (j : Nat) : w.cell? ⟨b, j, none⟩ = cs[j]? := by
  obtain ⟨v, h⟩ := h
  exact (Mst.bk h _ (List.mem_cons_of_mem _ hm)).1.cell j
theorem WrAt.start31 {W w w2 : World} {bl : Bl} {ow : List Ro} (h : Mst W w bl ow) (hw : w.alloc (.cells #[.slice none 0 0, .int .i64 0] 107) = w2) : ∃ g, w.heap.size = g ∧ WrAt W bl ow g ([], 0) w2 := by
  subst hw
  exact ⟨_, rfl, _, (h.new _ _).nilrow _ _⟩
/-- A number more, out of a block that was made for it; bytes. -/
theorem num_blk31 {W w : World} {F : Bl} {ow : List Ro} {g b c : Nat} {st : List UInt8 × Int} {s n : Int} (h : WrAt W F ow g st w) (hm : (b, 3, #[.int .i64 n]) ∈ F) (hn : n ≤ 9223372036854775807) (hl : st.1.length ≤ 1024) :
    Calls Tryd.prog 69 #[.pointer (some ⟨g, 0, none⟩), .int .i64 s, .slice (some ⟨b, 0, none⟩) 1 c] w (WrPost W F ow g (putB st (nf s n))) := by
  have := numbers_any W w F ow g st h s [n] (some ⟨b, 0, none⟩) c (Src.blk hm rfl) (by simpa using hn) hl (by simp [maxLen])
  exact this
theorem byt_blk31 {W w : World} {F : Bl} {ow : List Ro} {g b c n c' : Nat} {A : Option Addr} {l : List UInt8} {st : List UInt8 × Int} (h : WrAt W F ow g st w) (hm : (b, 60, #[.slice A n c']) ∈ F) (hn : l.length = n) (hs : Src W F ow 1 A l.length (by8 l)) (h6 : n ≤ 1000000) (hl : st.1.length ≤ 1024) :
    Calls Tryd.prog 70 #[.pointer (some ⟨g, 0, none⟩), .slice (some ⟨b, 0, none⟩) 1 c] w (WrPost W F ow g (putB st (bf A c' l))) := by
  subst hn
  have := wbytes_any W w F ow g st h [bf A c' l] (some ⟨b, 0, none⟩) c (Src.blk hm rfl) (by
    intro f hf
    obtain rfl : f = bf A c' l := by simpa using hf
    exact ⟨rfl, rfl, h6, hs⟩) hl (by simp [maxLen])
  exact this
theorem WrAt.newW {W w : World} {bl : Bl} {ow : List Ro} {g : Nat} {st : List UInt8 × Int} (h : WrAt W bl ow g st w) (t : TypeId) (cs : Array Value) : WrAt W ((w.heap.size, t, cs) :: bl) ow g st (w.alloc (.cells cs t)) := by
  obtain ⟨v, h⟩ := h
  exact ⟨v, h.newb t cs⟩
--@J
/-- The writer behind m of the four. -/
def scSt (st : List UInt8 × Int) (ek ew en : Int) (eA : Option Addr) (ec : Nat) (el : List UInt8) (m : Nat) : List UInt8 × Int :=
  if m = 0 then st else if m = 1 then putB st (nf 0 ek) else if m = 2 then putB (putB st (nf 0 ek)) (nf 1 ew) else if m = 3 then putB (putB (putB st (nf 0 ek)) (nf 1 ew)) (nf 2 en) else putB (putB (putB (putB st (nf 0 ek)) (nf 1 ew)) (nf 2 en)) (bf eA ec el)
theorem scSt_len {st : List UInt8 × Int} (h : st.1.length ≤ 1024) (ek ew en : Int) (eA : Option Addr) (ec : Nat) (el : List UInt8) (m : Nat) : (scSt st ek ew en eA ec el m).1.length ≤ 1024 := by
  unfold scSt
  split
  · exact h
  split
  · exact putB_len _ _ h
  split
  · exact putB_len _ _ (putB_len _ _ h)
  split
  · exact putB_len _ _ (putB_len _ _ (putB_len _ _ h))
  · exact putB_len _ _ (putB_len _ _ (putB_len _ _ (putB_len _ _ h)))
/-- What holds in the region, behind those of its operations that have come up. -/
structure scJ (w0 : World) (g gx : Nat) (ek ew en : Int) (eA : Option Addr) (L ec : Nat) (el : List UInt8) (st : List UInt8 × Int) (L' : Nat → Prop) (s26 s27 s28 s29 s30 s31 s32 s33 s34 s35 s36 s37 s38 s39 s40 s41 : Value) (w : World) : Prop where
  f0 : L' 0 → s26 = .pointer (some ⟨gx, 0, none⟩)
  f1 : L' 1 → s27 = .int .i64 ek
  f3 : L' 3 → s29 = .pointer (some ⟨g, 0, none⟩)
  f4 : L' 4 → s30 = .pointer (some ⟨gx, 1, none⟩)
  f5 : L' 5 → s31 = .int .i64 ew
  f7 : L' 7 → s33 = .pointer (some ⟨g, 0, none⟩)
  f8 : L' 8 → s34 = .pointer (some ⟨gx, 2, none⟩)
  f9 : L' 9 → s35 = .int .i64 en
  f11 : L' 11 → s37 = .pointer (some ⟨g, 0, none⟩)
  f12 : L' 12 → s38 = .pointer (some ⟨gx, 3, none⟩)
  f13 : L' 13 → s39 = .slice eA L ec
  f15 : L' 15 → s41 = .pointer (some ⟨g, 0, none⟩)
  c3 : L' 3 → L' 2
  c7 : L' 7 → L' 6
  c11 : L' 11 → L' 10
  c15 : L' 15 → L' 14
  bx : ∀ j : Nat, w.cell? ⟨gx, j, none⟩ = (#[.int .i64 ek, .int .i64 ew, .int .i64 en, .slice eA L ec] : Array Value)[j]?
  pr : ∃ (m : Nat) (F : Bl), (L' 3 ↔ 0 < m) ∧ (L' 7 ↔ 1 < m) ∧ (L' 11 ↔ 2 < m) ∧ (L' 15 ↔ 3 < m) ∧ m ≤ 4 ∧ (L' 2 → ∃ b, s28 = .slice (some ⟨b, 0, none⟩) 1 1 ∧ (b, 3, #[Value.int .i64 ek]) ∈ F) ∧ (L' 6 → ∃ b, s32 = .slice (some ⟨b, 0, none⟩) 1 1 ∧ (b, 3, #[Value.int .i64 ew]) ∈ F) ∧ (L' 10 → ∃ b, s36 = .slice (some ⟨b, 0, none⟩) 1 1 ∧ (b, 3, #[Value.int .i64 en]) ∈ F) ∧ (L' 14 → ∃ b, s40 = .slice (some ⟨b, 0, none⟩) 1 1 ∧ (b, 60, #[Value.slice eA L ec]) ∈ F) ∧ (gx, 62, (#[.int .i64 ek, .int .i64 ew, .int .i64 en, .slice eA L ec] : Array Value)) ∈ F ∧ WrAt w0 F [] g (scSt st ek ew en eA ec el m) w
--@J/
set_option maxRecDepth 100000 in
set_option maxHeartbeats 8000000 in
theorem sbytes_any (w0 : World) (hT : TabU w0) (fs : List Sb) (A : Option Addr) (c N : Nat) (hN : fs.length = N) (hl : Rd w0 w0.heap.size 4 A N (sts (fs.map Sb.st))) (hb : ∀ f ∈ fs, RB w0 w0.heap.size f.A f.l) (hL : ∀ f ∈ fs, f.l.length ≤ 410) (hn : N ≤ 1000) :
    Calls Tryd.prog 45 #[.slice A N c] w0 fun r w' => ∃ v, r = .returned (.tuple #[v, .int .i64 (sbytes fs).2]) ∧ Fresh w0 w' 5 1 v (sbytes fs).1.length (by8 (sbytes fs).1) := by
  have HN := Lib.hid hN
  by_cases h32 : 32 < N
  · rw [sbytes_long (by omega)]
    have i1 : (32 : Int) < N := by omega
    have HB0 := Lib.hid (show Fresh w0 w0 5 1 (.slice none 0 0) 0 (by8 []) from ⟨Below.refl _ _, World.ownsRow_nil _ _ _ _⟩)
    clear hT hN hl hb hL h32
    go_enter Tryd.func45, Tryd.ntmps45
    go_wp2_with fail
    go_ret2
    exact ⟨_, rfl, HB0.out⟩
  · have HAt := Lib.hid (show ∀ w' k e, Below w0.heap.size w0 w' → fs[k]? = some e → ∃ b o, A = some ⟨b, o, none⟩ ∧ StAt w' b o k e.st from fun w' k e hb hk => by
      obtain ⟨b, o, h1, h2, h3⟩ := hl.sb hN hk
      exact ⟨b, o, h1, h3.below hb h2⟩)
    have HS := Lib.hid (show ∀ (F : Bl) (f : Sb), f ∈ fs → Src w0 F [] 1 f.A f.l.length (by8 f.l) from fun F f hf => Src.old (hb f hf))
    have HL := Lib.hid hL
    have HT := Lib.hid hT
    have i1 : ¬ (32 : Int) < N := by omega
    have i2 : (N : Int) ≤ 32 := by omega
    have i3 : (0 : Int) ≤ N := by omega
    have M0 := Lib.hid (Mst.start w0)
    have hU : N ≤ 32 := by omega
    clear hT hN hl hb hL h32
    go_enter Tryd.func45, Tryd.ntmps45
    go_upto_region 4 with fail
    generalize hw1 : World.alloc _ _ = w1
    obtain ⟨g, hg, hW⟩ := WrAt.start31 M0.out hw1
    rw [hg]
    have P0 := Lib.hid hW
    clear hW hw1 M0
    go_wp2_with fail
    generalize hw2 : World.alloc _ _ = w2
    obtain ⟨g2, hg2, hW⟩ := P0.out.new31 hw2
    simp only [hg2]
    have P1 := Lib.hid hW
    clear hW hw2
    with_reducible refine (num_blk31 (W := w0) (F := [(g2, 3, #[.int .i64 (N : Int)])]) (st := ([], 0)) (s := 0) P1.out (List.mem_cons_self ..) (by omega) (by decide)).mono ?_
    rintro r w3 ⟨rfl, hW⟩
    have P2 := Lib.hid (show WrAt w0 [] [] g (wrS N []) w3 from hW.sub (by simp))
    clear hW P0 P1 hg2
    go_wp2_with fail
    go_loopg [17] N (fun gg s17 wr => ∃ k : Nat, k + gg = N ∧ s17 = .int .i64 k ∧ Hid (∀ f ∈ fs.take k, f.st.chk = 0) ∧ WrAt w0 [] [] g (wrS N (fs.take k)) wr)
    case atStart => exact ⟨0, by omega, rfl, Lib.hid (by simp), by simpa using P2.out⟩
    case round =>
      obtain ⟨k, hk, rfl, hok, hW⟩ := hrel
      have HW := Lib.hid hW
      clear P2 hW
      by_cases hlt : k < N
      · obtain ⟨e, he⟩ : ∃ e, fs[k]? = some e := ⟨_, List.getElem?_eq_getElem (by rw [HN.out]; exact hlt)⟩
        have HE := Lib.hid he
        obtain ⟨b, o, rfl, hAt⟩ := HAt.out wr k e HW.out.bel31 he
        obtain ⟨L, hL⟩ : ∃ L, e.l.length = L := ⟨_, rfl⟩
        obtain ⟨C, hC⟩ : ∃ C, e.st.chk = C := ⟨_, rfl⟩
        have HSR := Lib.hid (show ∀ F : Bl, Src w0 F [] 1 e.A L (by8 e.l) from fun F => by rw [← hL]; exact HS.out F e (List.mem_of_getElem? he))
        have HLL := Lib.hid hL
        have hL1 : L ≤ 410 := by rw [← hL]; exact HL.out e (List.mem_of_getElem? he)
        have hchk := (scrc_any e.k e.who e.n e.A e.l.length e.c).1
        rw [show scC e.k e.who e.n e.l.length = C from hC, hL] at hchk
        have HCK := Lib.hid (show ∀ w', Below w0.heap.size w0 w' → _ from fun w' hb => hchk w' (HT.out.keep hb))
        have HCC := Lib.hid hC
        have HTS := Lib.hid (take_snoc31 he)
        obtain ⟨ek, ew, en, eA, ec, el⟩ := e
        obtain ⟨a0, a1, a2, a3⟩ := hAt
        simp only [Sb.st, hL] at a0 a1 a2 a3
        simp only at HCK HSR HLL
        have j1 : (k : Int) < N := by omega
        have j2 : (0 : Int) ≤ k := by omega
        clear hchk hC he hL
        go_wp2_with fail
        generalize hw4 : World.alloc _ _ = w4
        obtain ⟨gx, hgx, hW⟩ := HW.out.new31 hw4
        simp only [hgx]
        have P4 := Lib.hid hW
        clear hW hw4 a0 a1 a2 a3 HW hgx
        with_reducible refine (HCK.out _ P4.out.bel31).mono ?_
        rintro r w5 ⟨rfl, hb⟩
        have P5 := Lib.hid (P4.out.below hb)
        clear hb P4
        by_cases hc0 : C = 0
        · subst hc0
          obtain ⟨k0, k1, q0, q1, n0, n1, -⟩ := scC_ok31 HCC.out
          simp only [Sb.st] at k0 k1 q0 q1 n0 n1
          have N0 := Lib.hid (show ek ≤ 9223372036854775807 by omega)
          have N1 := Lib.hid (show ew ≤ 9223372036854775807 by omega)
          have N2 := Lib.hid (show en ≤ 9223372036854775807 by omega)
          have HOK := Lib.hid (show ∀ f ∈ fs.take (k + 1), f.st.chk = 0 from by
            rw [HTS.out]
            intro f hf
            rcases List.mem_append.1 hf with hf | hf
            · exact hok.out f hf
            · obtain rfl := List.mem_singleton.1 hf
              exact HCC.out)
          have HWS := Lib.hid (show wrS N (fs.take (k + 1)) = scSt (wrS N (fs.take k)) ek ew en eA ec el 4 from by rw [HTS.out, wrS_snoc]; rfl)
          have HSL := Lib.hid (wrS_len N (fs.take k))
          obtain ⟨st, hst⟩ : ∃ st, wrS N (fs.take k) = st := ⟨_, rfl⟩
          rw [hst] at P5 HWS HSL
          clear k0 k1 q0 q1 n0 n1 hst
          go_upto_region 11 with fail
          --@R
          refine wp_region_inv (by kernel_rfl) (fun L' a w => ∃ s26 s27 s28 s29 s30 s31 s32 s33 s34 s35 s36 s37 s38 s39 s40 s41 : Value, a = ⟨#[.slice (some ⟨b, o, none⟩) N c, undef, u2, u3, .pointer (some ⟨g, 0, none⟩), undef, .pointer (some ⟨gx, 0, none⟩), .int .i64 0, .slice (some ⟨b, o, none⟩) N c, .int .i64 (N : Int), .bool false, .slice (some ⟨b, o, none⟩) N c, .int .i64 (N : Int), .slice (some ⟨g2, 0, none⟩) 1 1, .pointer (some ⟨g, 0, none⟩), .slice (some ⟨b, o, none⟩) N c, .int .i64 (N : Int), .int .i64 (k : Int), .bool true, .pointer (some ⟨b, o + k * 4, none⟩), .agg #[.int .i64 ek, .int .i64 ew, .int .i64 en, .slice eA L ec], .agg #[.int .i64 ek, .int .i64 ew, .int .i64 en, .slice eA L ec], .int .i64 0, .int .i64 0, .bool false, u25, s26, s27, s28, s29, s30, s31, s32, s33, s34, s35, s36, s37, s38, s39, s40, s41, u42, undef, undef, undef], []⟩ ∧ scJ w0 g gx ek ew en eA L ec el st L' s26 s27 s28 s29 s30 s31 s32 s33 s34 s35 s36 s37 s38 s39 s40 s41 w) (by kernel_rfl) ?_ ?_ ?_
          · refine ⟨u26, u27, u28, u29, u30, u31, u32, u33, u34, u35, u36, u37, u38, u39, u40, u41, rfl, ?_⟩
            exact { f0 := fun h => h.elim, f1 := fun h => h.elim, f3 := fun h => h.elim, f4 := fun h => h.elim, f5 := fun h => h.elim, f7 := fun h => h.elim, f8 := fun h => h.elim, f9 := fun h => h.elim, f11 := fun h => h.elim, f12 := fun h => h.elim, f13 := fun h => h.elim, f15 := fun h => h.elim, c3 := fun h => h.elim, c7 := fun h => h.elim, c11 := fun h => h.elim, c15 := fun h => h.elim, bx := fun j => P5.out.drew31.cell31 (List.mem_cons_self ..) j, pr := ⟨0, _, by simp, by simp, by simp, by simp, by omega, fun h => h.elim, fun h => h.elim, fun h => h.elim, fun h => h.elim, List.mem_cons_self .., P5.out.drew31⟩ }
          · intro ix op ho
            have hlt : ix < 16 := (Array.getElem?_eq_some_iff.1 ho).1
            have hc : ix = 0 ∨ ix = 1 ∨ ix = 2 ∨ ix = 3 ∨ ix = 4 ∨ ix = 5 ∨ ix = 6 ∨ ix = 7 ∨ ix = 8 ∨ ix = 9 ∨ ix = 10 ∨ ix = 11 ∨ ix = 12 ∨ ix = 13 ∨ ix = 14 ∨ ix = 15 := by omega
            clear hlt
            rcases hc with rfl | rfl | rfl | rfl | rfl | rfl | rfl | rfl | rfl | rfl | rfl | rfl | rfl | rfl | rfl | rfl
            · obtain rfl := Option.some.inj ho
              clear ho
              rintro L' a w hn hp ⟨s26, s27, s28, s29, s30, s31, s32, s33, s34, s35, s36, s37, s38, s39, s40, s41, rfl, hJ⟩ K hK
              clear hp
              go_simp
              refine hK _ _ ⟨_, _, _, _, _, _, _, _, _, _, _, _, _, _, _, _, rfl, ?_⟩
              obtain ⟨m, F, q0, q1, q2, q3, qm, b0, b1, b2, b3, hx, hw⟩ := hJ.pr
              exact { f0 := fun _ => rfl, f1 := fun h => hJ.f1 (h.resolve_left (by decide)), f3 := fun h => hJ.f3 (h.resolve_left (by decide)), f4 := fun h => hJ.f4 (h.resolve_left (by decide)), f5 := fun h => hJ.f5 (h.resolve_left (by decide)), f7 := fun h => hJ.f7 (h.resolve_left (by decide)), f8 := fun h => hJ.f8 (h.resolve_left (by decide)), f9 := fun h => hJ.f9 (h.resolve_left (by decide)), f11 := fun h => hJ.f11 (h.resolve_left (by decide)), f12 := fun h => hJ.f12 (h.resolve_left (by decide)), f13 := fun h => hJ.f13 (h.resolve_left (by decide)), f15 := fun h => hJ.f15 (h.resolve_left (by decide)), c3 := fun h => .inr (hJ.c3 (h.resolve_left (by decide))), c7 := fun h => .inr (hJ.c7 (h.resolve_left (by decide))), c11 := fun h => .inr (hJ.c11 (h.resolve_left (by decide))), c15 := fun h => .inr (hJ.c15 (h.resolve_left (by decide))), bx := hJ.bx, pr := ⟨m, F, by simpa using q0, by simpa using q1, by simpa using q2, by simpa using q3, qm, fun h => b0 (h.resolve_left (by decide)), fun h => b1 (h.resolve_left (by decide)), fun h => b2 (h.resolve_left (by decide)), fun h => b3 (h.resolve_left (by decide)), hx, hw⟩ }
            · obtain rfl := Option.some.inj ho
              clear ho
              rintro L' a w hn hp ⟨s26, s27, s28, s29, s30, s31, s32, s33, s34, s35, s36, s37, s38, s39, s40, s41, rfl, hJ⟩ K hK
              have p0 : L' 0 := hp { on := 0, ground := .data } (by simp) rfl
              clear hp
              obtain rfl := hJ.f0 p0
              have c0 : w.cell? ⟨gx, 0, none⟩ = some (.int .i64 ek) := hJ.bx 0
              go_simp
              refine hK _ _ ⟨_, _, _, _, _, _, _, _, _, _, _, _, _, _, _, _, rfl, ?_⟩
              obtain ⟨m, F, q0, q1, q2, q3, qm, b0, b1, b2, b3, hx, hw⟩ := hJ.pr
              exact { f0 := fun h => hJ.f0 (h.resolve_left (by decide)), f1 := fun _ => rfl, f3 := fun h => hJ.f3 (h.resolve_left (by decide)), f4 := fun h => hJ.f4 (h.resolve_left (by decide)), f5 := fun h => hJ.f5 (h.resolve_left (by decide)), f7 := fun h => hJ.f7 (h.resolve_left (by decide)), f8 := fun h => hJ.f8 (h.resolve_left (by decide)), f9 := fun h => hJ.f9 (h.resolve_left (by decide)), f11 := fun h => hJ.f11 (h.resolve_left (by decide)), f12 := fun h => hJ.f12 (h.resolve_left (by decide)), f13 := fun h => hJ.f13 (h.resolve_left (by decide)), f15 := fun h => hJ.f15 (h.resolve_left (by decide)), c3 := fun h => .inr (hJ.c3 (h.resolve_left (by decide))), c7 := fun h => .inr (hJ.c7 (h.resolve_left (by decide))), c11 := fun h => .inr (hJ.c11 (h.resolve_left (by decide))), c15 := fun h => .inr (hJ.c15 (h.resolve_left (by decide))), bx := hJ.bx, pr := ⟨m, F, by simpa using q0, by simpa using q1, by simpa using q2, by simpa using q3, qm, fun h => b0 (h.resolve_left (by decide)), fun h => b1 (h.resolve_left (by decide)), fun h => b2 (h.resolve_left (by decide)), fun h => b3 (h.resolve_left (by decide)), hx, hw⟩ }
            · obtain rfl := Option.some.inj ho
              clear ho
              rintro L' a w hn hp ⟨s26, s27, s28, s29, s30, s31, s32, s33, s34, s35, s36, s37, s38, s39, s40, s41, rfl, hJ⟩ K hK
              have p1 : L' 1 := hp { on := 1, ground := .data } (by simp) rfl
              clear hp
              obtain rfl := hJ.f1 p1
              have hz : gx < w.heap.size := block_lt_of_cell (v := .int .i64 ek) (hJ.bx 0)
              go_simp
              refine hK _ _ ⟨_, _, _, _, _, _, _, _, _, _, _, _, _, _, _, _, rfl, ?_⟩
              obtain ⟨m, F, q0, q1, q2, q3, qm, b0, b1, b2, b3, hx, hw⟩ := hJ.pr
              have n3 : ¬ L' 3 := fun h => hn (hJ.c3 h)
              exact { f0 := fun h => hJ.f0 (h.resolve_left (by decide)), f1 := fun h => hJ.f1 (h.resolve_left (by decide)), f3 := fun h => hJ.f3 (h.resolve_left (by decide)), f4 := fun h => hJ.f4 (h.resolve_left (by decide)), f5 := fun h => hJ.f5 (h.resolve_left (by decide)), f7 := fun h => hJ.f7 (h.resolve_left (by decide)), f8 := fun h => hJ.f8 (h.resolve_left (by decide)), f9 := fun h => hJ.f9 (h.resolve_left (by decide)), f11 := fun h => hJ.f11 (h.resolve_left (by decide)), f12 := fun h => hJ.f12 (h.resolve_left (by decide)), f13 := fun h => hJ.f13 (h.resolve_left (by decide)), f15 := fun h => hJ.f15 (h.resolve_left (by decide)), c3 := fun h => .inr (hJ.c3 (h.resolve_left (by decide))), c7 := fun h => .inr (hJ.c7 (h.resolve_left (by decide))), c11 := fun h => .inr (hJ.c11 (h.resolve_left (by decide))), c15 := fun h => .inr (hJ.c15 (h.resolve_left (by decide))), bx := fun j => (World.cell?_alloc_lt _ _ _ hz).trans (hJ.bx j), pr := ⟨m, (w.heap.size, 3, #[.int .i64 ek]) :: F, by simpa using q0, by simpa using q1, by simpa using q2, by simpa using q3, qm, fun _ => ⟨_, rfl, List.mem_cons_self ..⟩, fun h => by obtain ⟨b, e, hb⟩ := b1 (h.resolve_left (by decide)); exact ⟨b, e, List.mem_cons_of_mem _ hb⟩, fun h => by obtain ⟨b, e, hb⟩ := b2 (h.resolve_left (by decide)); exact ⟨b, e, List.mem_cons_of_mem _ hb⟩, fun h => by obtain ⟨b, e, hb⟩ := b3 (h.resolve_left (by decide)); exact ⟨b, e, List.mem_cons_of_mem _ hb⟩, List.mem_cons_of_mem _ hx, hw.newW _ _⟩ }
            · obtain rfl := Option.some.inj ho
              clear ho
              rintro L' a w hn hp ⟨s26, s27, s28, s29, s30, s31, s32, s33, s34, s35, s36, s37, s38, s39, s40, s41, rfl, hJ⟩ K hK
              have p2 : L' 2 := hp { on := 2, ground := .data } (by simp) rfl
              clear hp
              obtain ⟨m, F, q0, q1, q2, q3, qm, b0, b1, b2, b3, hx, hw⟩ := hJ.pr
              obtain ⟨b, rfl, hb⟩ := b0 p2
              have hm : m = 0 := by have h1 : ¬ (0 < m) := fun h => hn (q0.2 h); omega
              subst hm
              have HW := Lib.hid hw
              clear hw
              go_simp
              with_reducible refine (num_blk31 (W := w0) (F := F) HW.out hb N0.out (scSt_len HSL.out _ _ _ _ _ _ _)).mono ?_
              rintro e w2 ⟨rfl, h2⟩
              refine hK _ _ ⟨_, _, _, _, _, _, _, _, _, _, _, _, _, _, _, _, rfl, ?_⟩
              exact { f0 := fun h => hJ.f0 (h.resolve_left (by decide)), f1 := fun h => hJ.f1 (h.resolve_left (by decide)), f3 := fun _ => rfl, f4 := fun h => hJ.f4 (h.resolve_left (by decide)), f5 := fun h => hJ.f5 (h.resolve_left (by decide)), f7 := fun h => hJ.f7 (h.resolve_left (by decide)), f8 := fun h => hJ.f8 (h.resolve_left (by decide)), f9 := fun h => hJ.f9 (h.resolve_left (by decide)), f11 := fun h => hJ.f11 (h.resolve_left (by decide)), f12 := fun h => hJ.f12 (h.resolve_left (by decide)), f13 := fun h => hJ.f13 (h.resolve_left (by decide)), f15 := fun h => hJ.f15 (h.resolve_left (by decide)), c3 := fun _ => .inr p2, c7 := fun h => .inr (hJ.c7 (h.resolve_left (by decide))), c11 := fun h => .inr (hJ.c11 (h.resolve_left (by decide))), c15 := fun h => .inr (hJ.c15 (h.resolve_left (by decide))), bx := fun j => WrAt.cell31 h2 hx j, pr := ⟨1, F, ⟨fun _ => by omega, fun _ => .inl rfl⟩, ⟨fun h => by have := q1.1 (h.resolve_left (by decide)); omega, fun h => by omega⟩, ⟨fun h => by have := q2.1 (h.resolve_left (by decide)); omega, fun h => by omega⟩, ⟨fun h => by have := q3.1 (h.resolve_left (by decide)); omega, fun h => by omega⟩, by omega, fun _ => ⟨_, rfl, hb⟩, fun h => b1 (h.resolve_left (by decide)), fun h => b2 (h.resolve_left (by decide)), fun h => b3 (h.resolve_left (by decide)), hx, h2⟩ }
            · obtain rfl := Option.some.inj ho
              clear ho
              rintro L' a w hn hp ⟨s26, s27, s28, s29, s30, s31, s32, s33, s34, s35, s36, s37, s38, s39, s40, s41, rfl, hJ⟩ K hK
              clear hp
              go_simp
              refine hK _ _ ⟨_, _, _, _, _, _, _, _, _, _, _, _, _, _, _, _, rfl, ?_⟩
              obtain ⟨m, F, q0, q1, q2, q3, qm, b0, b1, b2, b3, hx, hw⟩ := hJ.pr
              exact { f0 := fun h => hJ.f0 (h.resolve_left (by decide)), f1 := fun h => hJ.f1 (h.resolve_left (by decide)), f3 := fun h => hJ.f3 (h.resolve_left (by decide)), f4 := fun _ => rfl, f5 := fun h => hJ.f5 (h.resolve_left (by decide)), f7 := fun h => hJ.f7 (h.resolve_left (by decide)), f8 := fun h => hJ.f8 (h.resolve_left (by decide)), f9 := fun h => hJ.f9 (h.resolve_left (by decide)), f11 := fun h => hJ.f11 (h.resolve_left (by decide)), f12 := fun h => hJ.f12 (h.resolve_left (by decide)), f13 := fun h => hJ.f13 (h.resolve_left (by decide)), f15 := fun h => hJ.f15 (h.resolve_left (by decide)), c3 := fun h => .inr (hJ.c3 (h.resolve_left (by decide))), c7 := fun h => .inr (hJ.c7 (h.resolve_left (by decide))), c11 := fun h => .inr (hJ.c11 (h.resolve_left (by decide))), c15 := fun h => .inr (hJ.c15 (h.resolve_left (by decide))), bx := hJ.bx, pr := ⟨m, F, by simpa using q0, by simpa using q1, by simpa using q2, by simpa using q3, qm, fun h => b0 (h.resolve_left (by decide)), fun h => b1 (h.resolve_left (by decide)), fun h => b2 (h.resolve_left (by decide)), fun h => b3 (h.resolve_left (by decide)), hx, hw⟩ }
            · obtain rfl := Option.some.inj ho
              clear ho
              rintro L' a w hn hp ⟨s26, s27, s28, s29, s30, s31, s32, s33, s34, s35, s36, s37, s38, s39, s40, s41, rfl, hJ⟩ K hK
              have p4 : L' 4 := hp { on := 4, ground := .data } (by simp) rfl
              clear hp
              obtain rfl := hJ.f4 p4
              have c0 : w.cell? ⟨gx, 1, none⟩ = some (.int .i64 ew) := hJ.bx 1
              go_simp
              refine hK _ _ ⟨_, _, _, _, _, _, _, _, _, _, _, _, _, _, _, _, rfl, ?_⟩
              obtain ⟨m, F, q0, q1, q2, q3, qm, b0, b1, b2, b3, hx, hw⟩ := hJ.pr
              exact { f0 := fun h => hJ.f0 (h.resolve_left (by decide)), f1 := fun h => hJ.f1 (h.resolve_left (by decide)), f3 := fun h => hJ.f3 (h.resolve_left (by decide)), f4 := fun h => hJ.f4 (h.resolve_left (by decide)), f5 := fun _ => rfl, f7 := fun h => hJ.f7 (h.resolve_left (by decide)), f8 := fun h => hJ.f8 (h.resolve_left (by decide)), f9 := fun h => hJ.f9 (h.resolve_left (by decide)), f11 := fun h => hJ.f11 (h.resolve_left (by decide)), f12 := fun h => hJ.f12 (h.resolve_left (by decide)), f13 := fun h => hJ.f13 (h.resolve_left (by decide)), f15 := fun h => hJ.f15 (h.resolve_left (by decide)), c3 := fun h => .inr (hJ.c3 (h.resolve_left (by decide))), c7 := fun h => .inr (hJ.c7 (h.resolve_left (by decide))), c11 := fun h => .inr (hJ.c11 (h.resolve_left (by decide))), c15 := fun h => .inr (hJ.c15 (h.resolve_left (by decide))), bx := hJ.bx, pr := ⟨m, F, by simpa using q0, by simpa using q1, by simpa using q2, by simpa using q3, qm, fun h => b0 (h.resolve_left (by decide)), fun h => b1 (h.resolve_left (by decide)), fun h => b2 (h.resolve_left (by decide)), fun h => b3 (h.resolve_left (by decide)), hx, hw⟩ }
            · obtain rfl := Option.some.inj ho
              clear ho
              rintro L' a w hn hp ⟨s26, s27, s28, s29, s30, s31, s32, s33, s34, s35, s36, s37, s38, s39, s40, s41, rfl, hJ⟩ K hK
              have p5 : L' 5 := hp { on := 5, ground := .data } (by simp) rfl
              clear hp
              obtain rfl := hJ.f5 p5
              have hz : gx < w.heap.size := block_lt_of_cell (v := .int .i64 ek) (hJ.bx 0)
              go_simp
              refine hK _ _ ⟨_, _, _, _, _, _, _, _, _, _, _, _, _, _, _, _, rfl, ?_⟩
              obtain ⟨m, F, q0, q1, q2, q3, qm, b0, b1, b2, b3, hx, hw⟩ := hJ.pr
              have n3 : ¬ L' 7 := fun h => hn (hJ.c7 h)
              exact { f0 := fun h => hJ.f0 (h.resolve_left (by decide)), f1 := fun h => hJ.f1 (h.resolve_left (by decide)), f3 := fun h => hJ.f3 (h.resolve_left (by decide)), f4 := fun h => hJ.f4 (h.resolve_left (by decide)), f5 := fun h => hJ.f5 (h.resolve_left (by decide)), f7 := fun h => hJ.f7 (h.resolve_left (by decide)), f8 := fun h => hJ.f8 (h.resolve_left (by decide)), f9 := fun h => hJ.f9 (h.resolve_left (by decide)), f11 := fun h => hJ.f11 (h.resolve_left (by decide)), f12 := fun h => hJ.f12 (h.resolve_left (by decide)), f13 := fun h => hJ.f13 (h.resolve_left (by decide)), f15 := fun h => hJ.f15 (h.resolve_left (by decide)), c3 := fun h => .inr (hJ.c3 (h.resolve_left (by decide))), c7 := fun h => .inr (hJ.c7 (h.resolve_left (by decide))), c11 := fun h => .inr (hJ.c11 (h.resolve_left (by decide))), c15 := fun h => .inr (hJ.c15 (h.resolve_left (by decide))), bx := fun j => (World.cell?_alloc_lt _ _ _ hz).trans (hJ.bx j), pr := ⟨m, (w.heap.size, 3, #[.int .i64 ew]) :: F, by simpa using q0, by simpa using q1, by simpa using q2, by simpa using q3, qm, fun h => by obtain ⟨b, e, hb⟩ := b0 (h.resolve_left (by decide)); exact ⟨b, e, List.mem_cons_of_mem _ hb⟩, fun _ => ⟨_, rfl, List.mem_cons_self ..⟩, fun h => by obtain ⟨b, e, hb⟩ := b2 (h.resolve_left (by decide)); exact ⟨b, e, List.mem_cons_of_mem _ hb⟩, fun h => by obtain ⟨b, e, hb⟩ := b3 (h.resolve_left (by decide)); exact ⟨b, e, List.mem_cons_of_mem _ hb⟩, List.mem_cons_of_mem _ hx, hw.newW _ _⟩ }
            · obtain rfl := Option.some.inj ho
              clear ho
              rintro L' a w hn hp ⟨s26, s27, s28, s29, s30, s31, s32, s33, s34, s35, s36, s37, s38, s39, s40, s41, rfl, hJ⟩ K hK
              have p6 : L' 6 := hp { on := 6, ground := .data } (by simp) rfl
              have p3 : L' 3 := hp { on := 3, ground := .data } (by simp) rfl
              clear hp
              obtain ⟨m, F, q0, q1, q2, q3, qm, b0, b1, b2, b3, hx, hw⟩ := hJ.pr
              obtain rfl := hJ.f3 p3
              obtain ⟨b, rfl, hb⟩ := b1 p6
              have hm : m = 1 := by have h1 : ¬ (1 < m) := fun h => hn (q1.2 h); have h2 := q0.1 p3; omega
              subst hm
              have HW := Lib.hid hw
              clear hw
              go_simp
              with_reducible refine (num_blk31 (W := w0) (F := F) HW.out hb N1.out (scSt_len HSL.out _ _ _ _ _ _ _)).mono ?_
              rintro e w2 ⟨rfl, h2⟩
              refine hK _ _ ⟨_, _, _, _, _, _, _, _, _, _, _, _, _, _, _, _, rfl, ?_⟩
              exact { f0 := fun h => hJ.f0 (h.resolve_left (by decide)), f1 := fun h => hJ.f1 (h.resolve_left (by decide)), f3 := fun h => hJ.f3 (h.resolve_left (by decide)), f4 := fun h => hJ.f4 (h.resolve_left (by decide)), f5 := fun h => hJ.f5 (h.resolve_left (by decide)), f7 := fun _ => rfl, f8 := fun h => hJ.f8 (h.resolve_left (by decide)), f9 := fun h => hJ.f9 (h.resolve_left (by decide)), f11 := fun h => hJ.f11 (h.resolve_left (by decide)), f12 := fun h => hJ.f12 (h.resolve_left (by decide)), f13 := fun h => hJ.f13 (h.resolve_left (by decide)), f15 := fun h => hJ.f15 (h.resolve_left (by decide)), c3 := fun h => .inr (hJ.c3 (h.resolve_left (by decide))), c7 := fun _ => .inr p6, c11 := fun h => .inr (hJ.c11 (h.resolve_left (by decide))), c15 := fun h => .inr (hJ.c15 (h.resolve_left (by decide))), bx := fun j => WrAt.cell31 h2 hx j, pr := ⟨2, F, ⟨fun _ => by omega, fun _ => .inr (q0.2 (by omega))⟩, ⟨fun _ => by omega, fun _ => .inl rfl⟩, ⟨fun h => by have := q2.1 (h.resolve_left (by decide)); omega, fun h => by omega⟩, ⟨fun h => by have := q3.1 (h.resolve_left (by decide)); omega, fun h => by omega⟩, by omega, fun h => b0 (h.resolve_left (by decide)), fun _ => ⟨_, rfl, hb⟩, fun h => b2 (h.resolve_left (by decide)), fun h => b3 (h.resolve_left (by decide)), hx, h2⟩ }
            · obtain rfl := Option.some.inj ho
              clear ho
              rintro L' a w hn hp ⟨s26, s27, s28, s29, s30, s31, s32, s33, s34, s35, s36, s37, s38, s39, s40, s41, rfl, hJ⟩ K hK
              clear hp
              go_simp
              refine hK _ _ ⟨_, _, _, _, _, _, _, _, _, _, _, _, _, _, _, _, rfl, ?_⟩
              obtain ⟨m, F, q0, q1, q2, q3, qm, b0, b1, b2, b3, hx, hw⟩ := hJ.pr
              exact { f0 := fun h => hJ.f0 (h.resolve_left (by decide)), f1 := fun h => hJ.f1 (h.resolve_left (by decide)), f3 := fun h => hJ.f3 (h.resolve_left (by decide)), f4 := fun h => hJ.f4 (h.resolve_left (by decide)), f5 := fun h => hJ.f5 (h.resolve_left (by decide)), f7 := fun h => hJ.f7 (h.resolve_left (by decide)), f8 := fun _ => rfl, f9 := fun h => hJ.f9 (h.resolve_left (by decide)), f11 := fun h => hJ.f11 (h.resolve_left (by decide)), f12 := fun h => hJ.f12 (h.resolve_left (by decide)), f13 := fun h => hJ.f13 (h.resolve_left (by decide)), f15 := fun h => hJ.f15 (h.resolve_left (by decide)), c3 := fun h => .inr (hJ.c3 (h.resolve_left (by decide))), c7 := fun h => .inr (hJ.c7 (h.resolve_left (by decide))), c11 := fun h => .inr (hJ.c11 (h.resolve_left (by decide))), c15 := fun h => .inr (hJ.c15 (h.resolve_left (by decide))), bx := hJ.bx, pr := ⟨m, F, by simpa using q0, by simpa using q1, by simpa using q2, by simpa using q3, qm, fun h => b0 (h.resolve_left (by decide)), fun h => b1 (h.resolve_left (by decide)), fun h => b2 (h.resolve_left (by decide)), fun h => b3 (h.resolve_left (by decide)), hx, hw⟩ }
            · obtain rfl := Option.some.inj ho
              clear ho
              rintro L' a w hn hp ⟨s26, s27, s28, s29, s30, s31, s32, s33, s34, s35, s36, s37, s38, s39, s40, s41, rfl, hJ⟩ K hK
              have p8 : L' 8 := hp { on := 8, ground := .data } (by simp) rfl
              clear hp
              obtain rfl := hJ.f8 p8
              have c0 : w.cell? ⟨gx, 2, none⟩ = some (.int .i64 en) := hJ.bx 2
              go_simp
              refine hK _ _ ⟨_, _, _, _, _, _, _, _, _, _, _, _, _, _, _, _, rfl, ?_⟩
              obtain ⟨m, F, q0, q1, q2, q3, qm, b0, b1, b2, b3, hx, hw⟩ := hJ.pr
              exact { f0 := fun h => hJ.f0 (h.resolve_left (by decide)), f1 := fun h => hJ.f1 (h.resolve_left (by decide)), f3 := fun h => hJ.f3 (h.resolve_left (by decide)), f4 := fun h => hJ.f4 (h.resolve_left (by decide)), f5 := fun h => hJ.f5 (h.resolve_left (by decide)), f7 := fun h => hJ.f7 (h.resolve_left (by decide)), f8 := fun h => hJ.f8 (h.resolve_left (by decide)), f9 := fun _ => rfl, f11 := fun h => hJ.f11 (h.resolve_left (by decide)), f12 := fun h => hJ.f12 (h.resolve_left (by decide)), f13 := fun h => hJ.f13 (h.resolve_left (by decide)), f15 := fun h => hJ.f15 (h.resolve_left (by decide)), c3 := fun h => .inr (hJ.c3 (h.resolve_left (by decide))), c7 := fun h => .inr (hJ.c7 (h.resolve_left (by decide))), c11 := fun h => .inr (hJ.c11 (h.resolve_left (by decide))), c15 := fun h => .inr (hJ.c15 (h.resolve_left (by decide))), bx := hJ.bx, pr := ⟨m, F, by simpa using q0, by simpa using q1, by simpa using q2, by simpa using q3, qm, fun h => b0 (h.resolve_left (by decide)), fun h => b1 (h.resolve_left (by decide)), fun h => b2 (h.resolve_left (by decide)), fun h => b3 (h.resolve_left (by decide)), hx, hw⟩ }
            · obtain rfl := Option.some.inj ho
              clear ho
              rintro L' a w hn hp ⟨s26, s27, s28, s29, s30, s31, s32, s33, s34, s35, s36, s37, s38, s39, s40, s41, rfl, hJ⟩ K hK
              have p9 : L' 9 := hp { on := 9, ground := .data } (by simp) rfl
              clear hp
              obtain rfl := hJ.f9 p9
              have hz : gx < w.heap.size := block_lt_of_cell (v := .int .i64 ek) (hJ.bx 0)
              go_simp
              refine hK _ _ ⟨_, _, _, _, _, _, _, _, _, _, _, _, _, _, _, _, rfl, ?_⟩
              obtain ⟨m, F, q0, q1, q2, q3, qm, b0, b1, b2, b3, hx, hw⟩ := hJ.pr
              have n3 : ¬ L' 11 := fun h => hn (hJ.c11 h)
              exact { f0 := fun h => hJ.f0 (h.resolve_left (by decide)), f1 := fun h => hJ.f1 (h.resolve_left (by decide)), f3 := fun h => hJ.f3 (h.resolve_left (by decide)), f4 := fun h => hJ.f4 (h.resolve_left (by decide)), f5 := fun h => hJ.f5 (h.resolve_left (by decide)), f7 := fun h => hJ.f7 (h.resolve_left (by decide)), f8 := fun h => hJ.f8 (h.resolve_left (by decide)), f9 := fun h => hJ.f9 (h.resolve_left (by decide)), f11 := fun h => hJ.f11 (h.resolve_left (by decide)), f12 := fun h => hJ.f12 (h.resolve_left (by decide)), f13 := fun h => hJ.f13 (h.resolve_left (by decide)), f15 := fun h => hJ.f15 (h.resolve_left (by decide)), c3 := fun h => .inr (hJ.c3 (h.resolve_left (by decide))), c7 := fun h => .inr (hJ.c7 (h.resolve_left (by decide))), c11 := fun h => .inr (hJ.c11 (h.resolve_left (by decide))), c15 := fun h => .inr (hJ.c15 (h.resolve_left (by decide))), bx := fun j => (World.cell?_alloc_lt _ _ _ hz).trans (hJ.bx j), pr := ⟨m, (w.heap.size, 3, #[.int .i64 en]) :: F, by simpa using q0, by simpa using q1, by simpa using q2, by simpa using q3, qm, fun h => by obtain ⟨b, e, hb⟩ := b0 (h.resolve_left (by decide)); exact ⟨b, e, List.mem_cons_of_mem _ hb⟩, fun h => by obtain ⟨b, e, hb⟩ := b1 (h.resolve_left (by decide)); exact ⟨b, e, List.mem_cons_of_mem _ hb⟩, fun _ => ⟨_, rfl, List.mem_cons_self ..⟩, fun h => by obtain ⟨b, e, hb⟩ := b3 (h.resolve_left (by decide)); exact ⟨b, e, List.mem_cons_of_mem _ hb⟩, List.mem_cons_of_mem _ hx, hw.newW _ _⟩ }
            · obtain rfl := Option.some.inj ho
              clear ho
              rintro L' a w hn hp ⟨s26, s27, s28, s29, s30, s31, s32, s33, s34, s35, s36, s37, s38, s39, s40, s41, rfl, hJ⟩ K hK
              have p10 : L' 10 := hp { on := 10, ground := .data } (by simp) rfl
              have p7 : L' 7 := hp { on := 7, ground := .data } (by simp) rfl
              clear hp
              obtain ⟨m, F, q0, q1, q2, q3, qm, b0, b1, b2, b3, hx, hw⟩ := hJ.pr
              obtain rfl := hJ.f7 p7
              obtain ⟨b, rfl, hb⟩ := b2 p10
              have hm : m = 2 := by have h1 : ¬ (2 < m) := fun h => hn (q2.2 h); have h2 := q1.1 p7; omega
              subst hm
              have HW := Lib.hid hw
              clear hw
              go_simp
              with_reducible refine (num_blk31 (W := w0) (F := F) HW.out hb N2.out (scSt_len HSL.out _ _ _ _ _ _ _)).mono ?_
              rintro e w2 ⟨rfl, h2⟩
              refine hK _ _ ⟨_, _, _, _, _, _, _, _, _, _, _, _, _, _, _, _, rfl, ?_⟩
              exact { f0 := fun h => hJ.f0 (h.resolve_left (by decide)), f1 := fun h => hJ.f1 (h.resolve_left (by decide)), f3 := fun h => hJ.f3 (h.resolve_left (by decide)), f4 := fun h => hJ.f4 (h.resolve_left (by decide)), f5 := fun h => hJ.f5 (h.resolve_left (by decide)), f7 := fun h => hJ.f7 (h.resolve_left (by decide)), f8 := fun h => hJ.f8 (h.resolve_left (by decide)), f9 := fun h => hJ.f9 (h.resolve_left (by decide)), f11 := fun _ => rfl, f12 := fun h => hJ.f12 (h.resolve_left (by decide)), f13 := fun h => hJ.f13 (h.resolve_left (by decide)), f15 := fun h => hJ.f15 (h.resolve_left (by decide)), c3 := fun h => .inr (hJ.c3 (h.resolve_left (by decide))), c7 := fun h => .inr (hJ.c7 (h.resolve_left (by decide))), c11 := fun _ => .inr p10, c15 := fun h => .inr (hJ.c15 (h.resolve_left (by decide))), bx := fun j => WrAt.cell31 h2 hx j, pr := ⟨3, F, ⟨fun _ => by omega, fun _ => .inr (q0.2 (by omega))⟩, ⟨fun _ => by omega, fun _ => .inr (q1.2 (by omega))⟩, ⟨fun _ => by omega, fun _ => .inl rfl⟩, ⟨fun h => by have := q3.1 (h.resolve_left (by decide)); omega, fun h => by omega⟩, by omega, fun h => b0 (h.resolve_left (by decide)), fun h => b1 (h.resolve_left (by decide)), fun _ => ⟨_, rfl, hb⟩, fun h => b3 (h.resolve_left (by decide)), hx, h2⟩ }
            · obtain rfl := Option.some.inj ho
              clear ho
              rintro L' a w hn hp ⟨s26, s27, s28, s29, s30, s31, s32, s33, s34, s35, s36, s37, s38, s39, s40, s41, rfl, hJ⟩ K hK
              clear hp
              go_simp
              refine hK _ _ ⟨_, _, _, _, _, _, _, _, _, _, _, _, _, _, _, _, rfl, ?_⟩
              obtain ⟨m, F, q0, q1, q2, q3, qm, b0, b1, b2, b3, hx, hw⟩ := hJ.pr
              exact { f0 := fun h => hJ.f0 (h.resolve_left (by decide)), f1 := fun h => hJ.f1 (h.resolve_left (by decide)), f3 := fun h => hJ.f3 (h.resolve_left (by decide)), f4 := fun h => hJ.f4 (h.resolve_left (by decide)), f5 := fun h => hJ.f5 (h.resolve_left (by decide)), f7 := fun h => hJ.f7 (h.resolve_left (by decide)), f8 := fun h => hJ.f8 (h.resolve_left (by decide)), f9 := fun h => hJ.f9 (h.resolve_left (by decide)), f11 := fun h => hJ.f11 (h.resolve_left (by decide)), f12 := fun _ => rfl, f13 := fun h => hJ.f13 (h.resolve_left (by decide)), f15 := fun h => hJ.f15 (h.resolve_left (by decide)), c3 := fun h => .inr (hJ.c3 (h.resolve_left (by decide))), c7 := fun h => .inr (hJ.c7 (h.resolve_left (by decide))), c11 := fun h => .inr (hJ.c11 (h.resolve_left (by decide))), c15 := fun h => .inr (hJ.c15 (h.resolve_left (by decide))), bx := hJ.bx, pr := ⟨m, F, by simpa using q0, by simpa using q1, by simpa using q2, by simpa using q3, qm, fun h => b0 (h.resolve_left (by decide)), fun h => b1 (h.resolve_left (by decide)), fun h => b2 (h.resolve_left (by decide)), fun h => b3 (h.resolve_left (by decide)), hx, hw⟩ }
            · obtain rfl := Option.some.inj ho
              clear ho
              rintro L' a w hn hp ⟨s26, s27, s28, s29, s30, s31, s32, s33, s34, s35, s36, s37, s38, s39, s40, s41, rfl, hJ⟩ K hK
              have p12 : L' 12 := hp { on := 12, ground := .data } (by simp) rfl
              clear hp
              obtain rfl := hJ.f12 p12
              have c0 : w.cell? ⟨gx, 3, none⟩ = some (.slice eA L ec) := hJ.bx 3
              go_simp
              refine hK _ _ ⟨_, _, _, _, _, _, _, _, _, _, _, _, _, _, _, _, rfl, ?_⟩
              obtain ⟨m, F, q0, q1, q2, q3, qm, b0, b1, b2, b3, hx, hw⟩ := hJ.pr
              exact { f0 := fun h => hJ.f0 (h.resolve_left (by decide)), f1 := fun h => hJ.f1 (h.resolve_left (by decide)), f3 := fun h => hJ.f3 (h.resolve_left (by decide)), f4 := fun h => hJ.f4 (h.resolve_left (by decide)), f5 := fun h => hJ.f5 (h.resolve_left (by decide)), f7 := fun h => hJ.f7 (h.resolve_left (by decide)), f8 := fun h => hJ.f8 (h.resolve_left (by decide)), f9 := fun h => hJ.f9 (h.resolve_left (by decide)), f11 := fun h => hJ.f11 (h.resolve_left (by decide)), f12 := fun h => hJ.f12 (h.resolve_left (by decide)), f13 := fun _ => rfl, f15 := fun h => hJ.f15 (h.resolve_left (by decide)), c3 := fun h => .inr (hJ.c3 (h.resolve_left (by decide))), c7 := fun h => .inr (hJ.c7 (h.resolve_left (by decide))), c11 := fun h => .inr (hJ.c11 (h.resolve_left (by decide))), c15 := fun h => .inr (hJ.c15 (h.resolve_left (by decide))), bx := hJ.bx, pr := ⟨m, F, by simpa using q0, by simpa using q1, by simpa using q2, by simpa using q3, qm, fun h => b0 (h.resolve_left (by decide)), fun h => b1 (h.resolve_left (by decide)), fun h => b2 (h.resolve_left (by decide)), fun h => b3 (h.resolve_left (by decide)), hx, hw⟩ }
            · obtain rfl := Option.some.inj ho
              clear ho
              rintro L' a w hn hp ⟨s26, s27, s28, s29, s30, s31, s32, s33, s34, s35, s36, s37, s38, s39, s40, s41, rfl, hJ⟩ K hK
              have p13 : L' 13 := hp { on := 13, ground := .data } (by simp) rfl
              clear hp
              obtain rfl := hJ.f13 p13
              have hz : gx < w.heap.size := block_lt_of_cell (v := .int .i64 ek) (hJ.bx 0)
              go_simp
              refine hK _ _ ⟨_, _, _, _, _, _, _, _, _, _, _, _, _, _, _, _, rfl, ?_⟩
              obtain ⟨m, F, q0, q1, q2, q3, qm, b0, b1, b2, b3, hx, hw⟩ := hJ.pr
              have n3 : ¬ L' 15 := fun h => hn (hJ.c15 h)
              exact { f0 := fun h => hJ.f0 (h.resolve_left (by decide)), f1 := fun h => hJ.f1 (h.resolve_left (by decide)), f3 := fun h => hJ.f3 (h.resolve_left (by decide)), f4 := fun h => hJ.f4 (h.resolve_left (by decide)), f5 := fun h => hJ.f5 (h.resolve_left (by decide)), f7 := fun h => hJ.f7 (h.resolve_left (by decide)), f8 := fun h => hJ.f8 (h.resolve_left (by decide)), f9 := fun h => hJ.f9 (h.resolve_left (by decide)), f11 := fun h => hJ.f11 (h.resolve_left (by decide)), f12 := fun h => hJ.f12 (h.resolve_left (by decide)), f13 := fun h => hJ.f13 (h.resolve_left (by decide)), f15 := fun h => hJ.f15 (h.resolve_left (by decide)), c3 := fun h => .inr (hJ.c3 (h.resolve_left (by decide))), c7 := fun h => .inr (hJ.c7 (h.resolve_left (by decide))), c11 := fun h => .inr (hJ.c11 (h.resolve_left (by decide))), c15 := fun h => .inr (hJ.c15 (h.resolve_left (by decide))), bx := fun j => (World.cell?_alloc_lt _ _ _ hz).trans (hJ.bx j), pr := ⟨m, (w.heap.size, 60, #[.slice eA L ec]) :: F, by simpa using q0, by simpa using q1, by simpa using q2, by simpa using q3, qm, fun h => by obtain ⟨b, e, hb⟩ := b0 (h.resolve_left (by decide)); exact ⟨b, e, List.mem_cons_of_mem _ hb⟩, fun h => by obtain ⟨b, e, hb⟩ := b1 (h.resolve_left (by decide)); exact ⟨b, e, List.mem_cons_of_mem _ hb⟩, fun h => by obtain ⟨b, e, hb⟩ := b2 (h.resolve_left (by decide)); exact ⟨b, e, List.mem_cons_of_mem _ hb⟩, fun _ => ⟨_, rfl, List.mem_cons_self ..⟩, List.mem_cons_of_mem _ hx, hw.newW _ _⟩ }
            · obtain rfl := Option.some.inj ho
              clear ho
              rintro L' a w hn hp ⟨s26, s27, s28, s29, s30, s31, s32, s33, s34, s35, s36, s37, s38, s39, s40, s41, rfl, hJ⟩ K hK
              have p14 : L' 14 := hp { on := 14, ground := .data } (by simp) rfl
              have p11 : L' 11 := hp { on := 11, ground := .data } (by simp) rfl
              clear hp
              obtain ⟨m, F, q0, q1, q2, q3, qm, b0, b1, b2, b3, hx, hw⟩ := hJ.pr
              obtain rfl := hJ.f11 p11
              obtain ⟨b, rfl, hb⟩ := b3 p14
              have hm : m = 3 := by have h1 : ¬ (3 < m) := fun h => hn (q3.2 h); have h2 := q2.1 p11; omega
              subst hm
              have HW := Lib.hid hw
              clear hw
              go_simp
              with_reducible refine (byt_blk31 (W := w0) (F := F) HW.out hb HLL.out (by rw [HLL.out]; exact HSR.out F) (by omega) (scSt_len HSL.out _ _ _ _ _ _ _)).mono ?_
              rintro e w2 ⟨rfl, h2⟩
              refine hK _ _ ⟨_, _, _, _, _, _, _, _, _, _, _, _, _, _, _, _, rfl, ?_⟩
              exact { f0 := fun h => hJ.f0 (h.resolve_left (by decide)), f1 := fun h => hJ.f1 (h.resolve_left (by decide)), f3 := fun h => hJ.f3 (h.resolve_left (by decide)), f4 := fun h => hJ.f4 (h.resolve_left (by decide)), f5 := fun h => hJ.f5 (h.resolve_left (by decide)), f7 := fun h => hJ.f7 (h.resolve_left (by decide)), f8 := fun h => hJ.f8 (h.resolve_left (by decide)), f9 := fun h => hJ.f9 (h.resolve_left (by decide)), f11 := fun h => hJ.f11 (h.resolve_left (by decide)), f12 := fun h => hJ.f12 (h.resolve_left (by decide)), f13 := fun h => hJ.f13 (h.resolve_left (by decide)), f15 := fun _ => rfl, c3 := fun h => .inr (hJ.c3 (h.resolve_left (by decide))), c7 := fun h => .inr (hJ.c7 (h.resolve_left (by decide))), c11 := fun h => .inr (hJ.c11 (h.resolve_left (by decide))), c15 := fun _ => .inr p14, bx := fun j => WrAt.cell31 h2 hx j, pr := ⟨4, F, ⟨fun _ => by omega, fun _ => .inr (q0.2 (by omega))⟩, ⟨fun _ => by omega, fun _ => .inr (q1.2 (by omega))⟩, ⟨fun _ => by omega, fun _ => .inr (q2.2 (by omega))⟩, ⟨fun _ => by omega, fun _ => .inl rfl⟩, by omega, fun h => b0 (h.resolve_left (by decide)), fun h => b1 (h.resolve_left (by decide)), fun h => b2 (h.resolve_left (by decide)), fun _ => ⟨_, rfl, hb⟩, hx, h2⟩ }
          · rintro L' a w hL ⟨s26, s27, s28, s29, s30, s31, s32, s33, s34, s35, s36, s37, s38, s39, s40, s41, rfl, hJ⟩
            obtain ⟨m, F, q0, q1, q2, q3, qm, b0, b1, b2, b3, hx, hw⟩ := hJ.pr
            have hm : m = 4 := by have h2 := q3.1 (hL 15 (by decide)); omega
            subst hm
            have HW := Lib.hid hw
            clear hw hx b0 b1 b2 b3 q0 q1 q2 q3 qm hJ hL
            --@R/
            go_wp2_with fail
            go_roundg (N - (k + 1))
            case measure => exact meas hk hlt
            case rel => exact ⟨k + 1, meas2 hlt, by go_num, HOK, by rw [HWS.out]; exact HW.out.sub (by simp)⟩
        · have hc1 : (C == 0) = false := by simpa using hc0
          have hc2 : (C != 0) = true := by simpa using hc0
          have HSB := Lib.hid (show sbytes fs = ([], C) from by
            rw [sbytes_bad (by rw [HN.out]; exact hU) HE.out hok.out (by rw [HCC.out]; exact hc0), HCC.out])
          have HF := Lib.hid (show Fresh w0 w5 5 1 (.slice none 0 0) 0 (by8 []) from ⟨P5.out.bel31, World.ownsRow_nil _ _ _ _⟩)
          clear hc0
          go_wp2_with fail
          go_ret2
          exact ⟨_, by rw [HSB.out]; rfl, by rw [HSB.out]; exact HF.out⟩
      · obtain rfl : k = N := by omega
        have htk : fs.take k = fs := List.take_of_length_le (by rw [HN.out]; exact Nat.le_refl _)
        rw [htk] at HW hok
        have HSB := Lib.hid (sbytes_out (fs := fs) (by rw [HN.out]; exact hU) hok.out)
        rw [HN.out] at HSB
        have HO := Lib.hid (wout_any w0 wr [] [] g _ HW.out (wrS_len _ _))
        clear htk hlt hk hok
        go_wp2_with fail
        with_reducible refine (HO.out).mono ?_
        rintro r w4 ⟨v, v2, rfl, hm⟩
        have HM := Lib.hid (show Fresh w0 w4 5 1 v2 _ _ from ⟨hm.bel, hm.row []⟩)
        clear hm
        go_wp2_with fail
        go_ret2
        exact ⟨_, by rw [HSB.out]; rfl, by rw [HSB.out]; exact HM.out⟩
end Go.Proofs.YtnopmdhjamkoaaaDoor
