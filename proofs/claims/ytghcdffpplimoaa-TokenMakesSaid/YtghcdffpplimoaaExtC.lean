/- What lives: slices of bytes and keys that are read, over calls that turn nothing that was; literals' bytes, marked. -/
import Derived.Test.YtghcdffpplimoaaExtB
import Derived.Test.YtghcdffpplimoaaMark
import Derived.Laws.IdiomStrings
namespace Go.Proofs.Ytghcdffpplimoaa
set_option linter.unusedVariables false
set_option linter.unusedSimpArgs false
open Go.RowKit

section
variable {P : Program} {w : World} {ops : Array Oper} {rest : List Oper} {o : Oper} {a : Act} {Q : Exit → Act → World → Prop}
theorem wpList_valW (v : Value) (w2 : World) (hw : Region.wanted o (yielded ops a.tmps) = true) (hx : (execOp a.eval o).run P w = .ok (.value v) w2) (h : wpList P ops Q rest (a.put o.dst v) w2) : wpList P ops Q (o :: rest) a w :=
  BigFrame.wpList_want hw fun K hK => by unfold Oper.wp; rw [hx]; exact hK _ _ h
theorem wpList_convG (hw : Region.wanted o (yielded ops a.tmps) = true) (src dst : TypeId) (x : Operand) (ho : o.op = .convert src dst x) (vx v : Value) (hx : a.eval x = vx) (hr : (convert src dst vx).run P w = .ok v w) (h : wpList P ops Q rest (a.put o.dst v) w) : wpList P ops Q (o :: rest) a w :=
  wpList_valW v w hw (by simp only [execOp, ho, hx, Sem.run_bind, hr, Result.andThen_ok, Sem.run_pure]) h
end
theorem RB.of_cells {w : World} {g : Nat} {e : TypeId} {z : Nat × Nat} {l : List UInt8} (h : w.heap[g]? = some (.cells (b8a l) e z)) : RB w w.heap.size (some ⟨g, 0, none⟩) l := by
  have hlt : g < w.heap.size := by
    rcases Nat.lt_or_ge g w.heap.size with h1 | h1
    · exact h1
    · rw [Array.getElem?_eq_none h1] at h; cases h
  exact ⟨by simp [by8], fun _ => ⟨g, 0, rfl, hlt, fun j u hu => by rw [cell_of_row w g _ _ e z h]; simpa [b8a] using hu⟩⟩
/-- A literal's bytes are made and marked: 'buildSlice' and the conversion to the same type. -/
theorem wpList_markL {P : Program} {ops : Array Oper} {rest : List Oper} {o : Oper} {a : Act} {Q : Exit → Act → World → Prop} {w1 : World} (hw : Region.wanted o (yielded ops a.tmps) = true) (t : TypeId) (x : Operand) (ho : o.op = .convert t t x)
    (n c : Nat) (C : Array Value) (e : TypeId) (hx : a.eval x = .slice (some ⟨w1.heap.size, 0, none⟩) n c) (ht : P.underlying t = some (.slice e)) (he : P.underlying e = some (.int .u8)) (l : List UInt8) (hl : C = b8a l)
    (h : ∀ w2, Below w1.heap.size w1 w2 → RB w2 w2.heap.size (some ⟨w1.heap.size, 0, none⟩) l → wpList P ops Q rest (a.put o.dst (.slice (some ⟨w1.heap.size, 0, none⟩) n c)) w2) : wpList P ops Q (o :: rest) a (w1.alloc (.cells C e)) := by
  obtain ⟨w2, h1, h2, h3⟩ := run_convert_mark (P := P) (w1.alloc (.cells C e)) w1.heap.size t e C n c ht he (heap_alloc_new w1 _)
  refine wpList_valW (.slice (some ⟨w1.heap.size, 0, none⟩) n c) w2 hw ?_ (h w2 ?_ ?_)
  · simp only [execOp, ho, hx, Sem.run_bind, h1, Result.andThen_ok, Sem.run_pure]
  · exact ((Below.refl _ _).alloc (Nat.le_refl _) _).trans (h3.below (Nat.le_refl _) (by simp))
  · subst hl
    exact RB.of_cells h2
/-- 'string(b)'. -/
theorem run_string {P : Program} (w : World) (src dst e : TypeId) (A : Option Addr) (n c : Nat) (l : List UInt8) (hs : P.underlying src = some (.slice e)) (he : P.underlying e = some (.int .u8)) (hd : P.underlying dst = some .string)
    (hr : RB w w.heap.size A l) (hn : l.length = n) (hp : 0 < n) : (convert src dst (.slice A n c)).run P w = .ok (.string ⟨l.toArray⟩) w := by
  subst hn
  obtain ⟨b, o, rfl, _, hc⟩ := RB.at_ hr hp
  refine run_convert_bytes_back w src dst e _ c l hs he hd fun j hj => ?_
  rw [Addr.add_mid]
  exact hc j _ (List.getElem?_eq_getElem hj)

theorem Mst.toV {W w w2 w3 : World} {bl : Bl} {ow : List Ro} (h : Mst W w bl ow) (e : w2 = w3) (hh : w = w2) : Mst W w3 bl ow := by
  subst e hh
  exact h
/-- Slices of bytes, and keys, that live. -/
structure Lv (W w : World) (ps : List (Option Addr × List UInt8)) (ks : List (Nat × List UInt8)) : Prop where
  bel : Below W.heap.size W w
  rb : ∀ p ∈ ps, RB w w.heap.size p.1 p.2
  ky : ∀ k ∈ ks, KeyW w k.1 k.2
section
variable {W w w' : World} {ps ps' : List (Option Addr × List UInt8)} {ks ks' : List (Nat × List UInt8)} {A : Option Addr} {l : List UInt8}
theorem Lv.start (W : World) : Lv W W [] [] := ⟨Below.refl _ _, by simp, by simp⟩
theorem Lv.keep (h : Lv W w ps ks) (hb : Below w.heap.size w w') : Lv W w' ps ks := ⟨Bsz h.bel hb, fun p hp => (h.rb p hp).keep hb, fun k hk => (h.ky k hk).keep hb⟩
theorem Lv.add (h : Lv W w ps ks) (hr : RB w w.heap.size A l) : Lv W w ((A, l) :: ps) ks := ⟨h.bel, fun p hp => by
  rcases List.mem_cons.1 hp with rfl | hp
  · exact hr
  · exact h.rb p hp, h.ky⟩
theorem Lv.addk {g : Nat} (h : Lv W w ps ks) (hr : KeyW w g l) : Lv W w ps ((g, l) :: ks) := ⟨h.bel, h.rb, fun p hp => by
  rcases List.mem_cons.1 hp with rfl | hp
  · exact hr
  · exact h.ky p hp⟩
theorem Lv.again (h : Lv W w ps ks) : Lv w w ps ks := ⟨Below.refl _ _, h.rb, h.ky⟩
theorem Lv.r (h : Lv W w ps ks) (hm : (A, l) ∈ ps) : RB w w.heap.size A l := h.rb (A, l) hm
theorem Lv.k {g : Nat} (h : Lv W w ps ks) (hm : (g, l) ∈ ks) : KeyW w g l := h.ky (g, l) hm
end
end Go.Proofs.Ytghcdffpplimoaa
