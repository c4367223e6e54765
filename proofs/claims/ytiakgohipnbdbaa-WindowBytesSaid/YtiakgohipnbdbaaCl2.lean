/- Contracts of package claims: Bytes. -/
import Derived.Test.YtiakgohipnbdbaaCl1
import Derived.Test.YtiakgohipnbdbaaReg
namespace Go.Proofs.Ytiakgohipnbdbaa
set_option linter.unusedVariables false
open Go.RowKit

theorem WrAt.newb {W w : World} {bl : Bl} {ow : List Ro} {g : Nat} {st : List UInt8 × Int} (h : WrAt W bl ow g st w) (t : TypeId) (cs : Array Value) : WrAt W ((w.heap.size, t, cs) :: bl) ow g st (w.alloc (.cells cs t)) := by
  obtain ⟨v, h⟩ := h
  exact ⟨v, h.newb t cs⟩
theorem WrAt.drew {W w : World} {bl : Bl} {ow : List Ro} {g : Nat} {st : List UInt8 × Int} (h : WrAt W bl ow g st w) : WrAt W bl ow g st w.drew := by
  obtain ⟨v, h⟩ := h
  exact ⟨v, Mst.drew h⟩
theorem WrAt.cell {W w : World} {bl : Bl} {ow : List Ro} {g : Nat} {st : List UInt8 × Int} (h : WrAt W bl ow g st w) {b : Nat} {t : TypeId} {cs : Array Value} (hm : (b, t, cs) ∈ bl) (j : Nat) : w.cell? ⟨b, j, none⟩ = cs[j]? := by
  obtain ⟨v, h⟩ := h
  exact (Mst.bk h _ (List.mem_cons_of_mem _ hm)).1.cell j
theorem WrAt.start {W w : World} {bl : Bl} {ow : List Ro} (h : Mst W w bl ow) : WrAt W bl ow w.heap.size ([], 0) (w.alloc (.cells #[.slice none 0 0, .int .i64 0] 94)) :=
  ⟨_, (h.new _ _).nilrow _ _⟩
/-- A number more, out of a block that was made for it. -/
theorem num_blk {W w : World} {F : Bl} {ow : List Ro} {g b c : Nat} {st : List UInt8 × Int} {s n : Int} (h : WrAt W F ow g st w) (hm : (b, 3, #[.int .i64 n]) ∈ F) (hn : n ≤ 9223372036854775807) (hl : st.1.length ≤ 1024) :
    Calls Try.prog 53 #[.pointer (some ⟨g, 0, none⟩), .int .i64 s, .slice (some ⟨b, 0, none⟩) 1 c] w (WrPost W F ow g (putB st (nf s n))) := by
  have := numbers_any W w F ow g st h s [n] (some ⟨b, 0, none⟩) c (Src.blk hm rfl) (by simpa using hn) hl (by simp [maxLen])
  exact this

def clS0 : List UInt8 × Int := ([], 0)
def clS1 (i : Int) : List UInt8 × Int := putB (clS0 ) (nf 1 i)
def clS2 (i r : Int) : List UInt8 × Int := putB (clS1 i) (nf 0 r)
def clS3 (i r x : Int) : List UInt8 × Int := putB (clS2 i r) (nf 2 x)
def clS4 (i r x s : Int) : List UInt8 × Int := putB (clS3 i r x) (nf 1 s)
theorem clS0_len : (clS0 ).1.length ≤ 1024 := by decide
theorem clS1_len (i : Int) : (clS1 i).1.length ≤ 1024 := putB_len _ _ (clS0_len )
theorem clS2_len (i r : Int) : (clS2 i r).1.length ≤ 1024 := putB_len _ _ (clS1_len i)
theorem clS3_len (i r x : Int) : (clS3 i r x).1.length ≤ 1024 := putB_len _ _ (clS2_len i r)
theorem clS4_len (i r x s : Int) : (clS4 i r x s).1.length ≤ 1024 := putB_len _ _ (clS3_len i r x)
def clSt (i r x s : Int) (k : Nat) : List UInt8 × Int := if k = 0 then clS0  else if k = 1 then clS1 i else if k = 2 then clS2 i r else if k = 3 then clS3 i r x else clS4 i r x s
theorem clOr {p q : Prop} {L : Prop} (h : p ∨ L) (hp : ¬ p) : L := h.resolve_left hp
/-- Right claims as bytes. -/
def clB (i r x s : Int) : List UInt8 := numB 2 i ++ numB 1 r ++ numB 4 x ++ numB 2 s
theorem chk_nf1 {n : Int} (h0 : 0 ≤ n) (h1 : n ≤ 65535) : chkB (nf 1 n).s (nf 1 n).n (nf 1 n).l.length = 0 := by
  show chkB 1 n 0 = 0
  unfold chkB
  rw [if_neg (by omega), if_neg (by omega), if_neg (by omega), if_neg (by omega), if_neg (by omega), if_neg (by omega), if_pos rfl, if_neg (by omega)]
theorem chk_nf0 {n : Int} (h0 : 0 ≤ n) (h1 : n ≤ 255) : chkB (nf 0 n).s (nf 0 n).n (nf 0 n).l.length = 0 := by
  show chkB 0 n 0 = 0
  unfold chkB
  rw [if_neg (by omega), if_neg (by omega), if_neg (by omega), if_neg (by omega), if_neg (by omega), if_pos rfl, if_neg (by omega)]
theorem chk_nf2 {n : Int} (h0 : 0 ≤ n) (h1 : n ≤ 4294967295) : chkB (nf 2 n).s (nf 2 n).n (nf 2 n).l.length = 0 := by
  show chkB 2 n 0 = 0
  unfold chkB
  rw [if_neg (by omega), if_neg (by omega), if_neg (by omega), if_neg (by omega), if_neg (by omega), if_neg (by omega), if_neg (by omega), if_neg (by omega)]
theorem putB_nf {st : List UInt8 × Int} {s n : Int} (h : st.2 = 0) (hc : chkB (nf s n).s (nf s n).n (nf s n).l.length = 0) (hs : s ≠ 4) (hl : st.1.length ≤ 1000) : putB st (nf s n) = (st.1 ++ numB (widB s) n, 0) := by
  have ho : outB (nf s n).s (nf s n).n (nf s n).l = numB (widB s) n := by unfold outB; exact if_neg hs
  rw [putB_ok h hc (by rw [ho, numB_length]; have := widB_le s; omega), ho]
theorem clS4_ok {i r x s : Int} (h : clOk i r x s) : clS4 i r x s = (clB i r x s, 0) := by
  obtain ⟨h1, h2, h3, h4⟩ := h
  unfold clS4 clS3 clS2 clS1 clS0
  have e1 : putB ([], 0) (nf 1 i) = (numB 2 i, 0) := putB_nf rfl (chk_nf1 (by omega) (by omega)) (by omega) (by simp)
  have e2 : putB (numB 2 i, 0) (nf 0 r) = (numB 2 i ++ numB 1 r, 0) := putB_nf rfl (chk_nf0 (by omega) (by omega)) (by omega) (by simp [numB_length])
  have e3 : putB (numB 2 i ++ numB 1 r, 0) (nf 2 x) = (numB 2 i ++ numB 1 r ++ numB 4 x, 0) := putB_nf rfl (chk_nf2 (by omega) (by omega)) (by omega) (by simp [numB_length])
  have e4 : putB (numB 2 i ++ numB 1 r ++ numB 4 x, 0) (nf 1 s) = (numB 2 i ++ numB 1 r ++ numB 4 x ++ numB 2 s, 0) := putB_nf rfl (chk_nf1 (by omega) (by omega)) (by omega) (by simp [numB_length])
  rw [e1, e2, e3, e4]
  rfl
theorem clB_length (i r x s : Int) : (clB i r x s).length = 9 := by simp [clB, numB_length]

def clBPost (i r x s : Int) (W : World) (e : Ending) (w' : World) : Prop := ∃ v, e = .returned (.tuple #[v, .int .i64 0]) ∧ Fresh W w' 5 1 v 9 (by8 (clB i r x s))

end Go.Proofs.Ytiakgohipnbdbaa
