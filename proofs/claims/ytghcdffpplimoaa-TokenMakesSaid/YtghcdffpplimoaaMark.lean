/- A literal's bytes, marked in whatever world; steps beside a marked block. -/
import Derived.Test.YtghcdffpplimoaaMacA
import Derived.Lib.SlBytesConst
namespace Go.Proofs.Ytghcdffpplimoaa
set_option linter.unusedVariables false
set_option linter.unusedSimpArgs false
open Go.RowKit

theorem run_convert_mark {P : Program} (w : World) (g : Nat) (t e : TypeId) (C : Array Value) (n c : Nat) (ht : P.underlying t = some (.slice e)) (he : P.underlying e = some (.int .u8)) (hg : w.heap[g]? = some (.cells C e (0, 0))) :
    ∃ w', (convert t t (.slice (some ⟨g, 0, none⟩) n c)).run P w = .ok (.slice (some ⟨g, 0, none⟩) n c) w' ∧ w'.heap[g]? = some (.cells C e (C.size, C.size + 1)) ∧ On w w' g := by
  have hsh : w.shape? g = some (e, C.size) := by
    unfold World.shape?
    rw [hg]
  have hlt : g < w.heap.size := by
    rcases Nat.lt_or_ge g w.heap.size with h | h
    · exact h
    · rw [Array.getElem?_eq_none h] at hg; cases hg
  refine ⟨w.freeze ⟨g, C.size, none⟩ 1, ?_, ?_, ?_⟩
  · simp [convert, run_underlying ht, run_underlying he, markStringish, hsh]
  · unfold World.freeze
    rw [if_neg (by decide)]
    simp [Array.getElem?_modify, hg]
  · unfold World.freeze
    rw [if_neg (by decide)]
    refine ⟨rfl, rfl, rfl, by simp, fun i hi hne => ?_⟩
    have : g ≠ i := fun e => hne (by rw [e])
    simp [Array.getElem?_modify, this]
section
variable {W w w2 : World} {bl : Bl} {ow : List Ro} {gM : Nat} {ob : Obj}
/-- The block in front is marked. -/
theorem Mst.markB {P : Program} {g : Nat} {t e : TypeId} {C : Array Value} (h : Mst W w ((g, e, C) :: bl) ow) (n c : Nat) (ht : P.underlying t = some (.slice e)) (he : P.underlying e = some (.int .u8)) :
    ∃ w', (convert t t (.slice (some ⟨g, 0, none⟩) n c)).run P w = .ok (.slice (some ⟨g, 0, none⟩) n c) w' ∧ Mz W w' bl ow g (.cells C e (C.size, C.size + 1)) := by
  obtain ⟨w', h1, h2, h3⟩ := run_convert_mark (P := P) w g t e C n c ht he (h.blk [])
  have hb := h.bk (g, e, C) (List.mem_cons_self ..)
  have hnd := h.nd
  rw [List.map_cons, List.nodup_cons] at hnd
  have hne : ∀ x ∈ bl, x.1 ≠ g := fun x hx e2 => hnd.1 (List.mem_map.2 ⟨x, hx, e2⟩)
  refine ⟨w', h1, ⟨⟨h.bel.trans (h3.below hb.2 h.bel.size), fun x hx => ⟨h3.bk (h.bk x (List.mem_cons_of_mem _ hx)).1 (hne x hx), (h.bk x (List.mem_cons_of_mem _ hx)).2⟩, hnd.2, fun y hy => (h.own y hy).kept h3 (.inr (h.ne y hy _ (List.mem_cons_self ..))), fun y hy x hx => h.ne y hy x (List.mem_cons_of_mem _ hx), h.ap⟩, h2, hb.2, hne, fun y hy => h.ne y hy _ (List.mem_cons_self ..)⟩⟩
theorem Mst.mark0 (h : Mst W w bl ow) (ob : Obj) : Mz W (w.alloc ob) bl ow w.heap.size ob := by
  refine ⟨h.alloc ob, heap_alloc_new w ob, h.bel.size, fun x hx => ?_, fun y hy e => ?_⟩
  · have := (h.bk x hx).1.lt
    omega
  · have := ((h.own y hy).lt _ e).2
    omega
theorem Mz.emptyE {e : TypeId} (h : Mz W w bl ow gM ob) (hw : w.alloc (.cells #[] e) = w2) : Mz W w2 bl (⟨e, 1, .slice (some ⟨w.heap.size, 0, none⟩) 0 0, 0, []⟩ :: ow) gM ob := by
  subst hw
  exact h.newrow e 1 0 0 #[] (Nat.le_refl _) (by decide) rfl
end
theorem wpList_appZE {W wr : World} {bl : Bl} {gM : Nat} {ob : Obj} {P : Program} {ops : Array Oper} {rest : List Oper} {o : Oper} {a : Act} {Q : Exit → Act → World → Prop} (hgd : o.guard = none) (s x : Operand) (t : TypeId)
    (ho : o.op = .call { callee := .builtin .append, args := #[s, x], argTypes := #[t, t] })
    (pre : List Ro) {post : List Ro} {e : TypeId} {size n bytes : Nat} {v : Value} {xs : List Value} (hm : Mz W wr bl (pre ++ ⟨e, size, v, n, xs⟩ :: post) gM ob) (hE : El P t e size bytes) (hs : a.eval s = v)
    (B : Nat) (A : Option Addr) (m c : Nat) (news : List Value) (hx : a.eval x = .slice A m c) (hr : Rd wr B size A m news) (h1 : ∀ u ∈ news, u.oneCell' = true)
    (h63 : n + m ≤ maxLen) (hbytes : (n + m) * bytes ≤ 140737488355328)
    (h : ∀ A' c' w' N X, N = n + m → X = xs ++ news → Mz W w' bl (pre ++ ⟨e, size, .slice A' N c', N, X⟩ :: post) gM ob → wpList P ops Q rest (a.put o.dst (.slice A' N c')) w') : wpList P ops Q (o :: rest) a wr :=
  wpList_appZ hgd s x t ho pre hm hE hs B A m c news hx hr h1 h63 hbytes fun A' c' w' hm' => h A' c' w' _ _ rfl rfl hm'
end Go.Proofs.Ytghcdffpplimoaa
