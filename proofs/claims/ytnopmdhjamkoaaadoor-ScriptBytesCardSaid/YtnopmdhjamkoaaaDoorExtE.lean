/- Steps of Ext, MacA and ExtC that name no function of package mac, for seats without it. Over any program. -/
import Derived.Test.YtnopmdhjamkoaaaDoorExt
namespace Go.Proofs.YtnopmdhjamkoaaaDoor
set_option linter.unusedVariables false
open Go.RowKit

theorem Mst.toV {W w w2 w3 : World} {bl : Bl} {ow : List Ro} (h : Mst W w bl ow) (e : w2 = w3) (hh : w = w2) : Mst W w3 bl ow := by
  subst e hh
  exact h
theorem Mst.newX {W w w2 : World} {bl : Bl} {ow : List Ro} {t : TypeId} {cs : Array Value} (h : Mst W w bl ow) (hw : w.alloc (.cells cs t) = w2) : ∃ g, w.heap.size = g ∧ Mst W w2 ((g, t, cs) :: bl) ow := by
  subst hw
  exact ⟨_, rfl, h.new t cs⟩
section
variable {P : Program} {w W : World} {bl : Bl}
theorem step_appE {ops : Array Oper} {o : Oper} {a : Act} {K : Act → World → Prop} {Q : Exit → Act → World → Prop} {E : Prop} (hgd : o.guard = none) (s x : Operand) (t : TypeId)
    (ho : o.op = .call { callee := .builtin .append, args := #[s, x], argTypes := #[t, t] })
    (pre : List Ro) {post : List Ro} {e : TypeId} {size n bytes : Nat} {v : Value} {xs : List Value} (hm : Mst W w bl (pre ++ ⟨e, size, v, n, xs⟩ :: post)) (hE : El P t e size bytes) (hs : a.eval s = v)
    (B : Nat) (A : Option Addr) (m c : Nat) (news : List Value) (hx : a.eval x = .slice A m c) (hr : Rd w B size A m news) (h1 : ∀ u ∈ news, u.oneCell' = true)
    (h63 : n + m ≤ maxLen) (hbytes : (n + m) * bytes ≤ 140737488355328)
    (h : ∀ A' c' w' N X, N = n + m → X = xs ++ news → Mst W w' bl (pre ++ ⟨e, size, .slice A' N c', N, X⟩ :: post) → K (a.put o.dst (.slice A' N c')) w') :
    if Region.wanted o (yielded ops a.tmps) = true then Oper.wp P o a w K Q else E :=
  step_appM hgd s x t ho pre hm hE hs B A m c news hx hr h1 h63 hbytes fun A' c' w' hm' => h A' c' w' _ _ rfl rfl hm'
theorem wpList_appE {ops : Array Oper} {rest : List Oper} {o : Oper} {a : Act} {Q : Exit → Act → World → Prop} (hgd : o.guard = none) (s x : Operand) (t : TypeId)
    (ho : o.op = .call { callee := .builtin .append, args := #[s, x], argTypes := #[t, t] })
    (pre : List Ro) {post : List Ro} {e : TypeId} {size n bytes : Nat} {v : Value} {xs : List Value} (hm : Mst W w bl (pre ++ ⟨e, size, v, n, xs⟩ :: post)) (hE : El P t e size bytes) (hs : a.eval s = v)
    (B : Nat) (A : Option Addr) (m c : Nat) (news : List Value) (hx : a.eval x = .slice A m c) (hr : Rd w B size A m news) (h1 : ∀ u ∈ news, u.oneCell' = true)
    (h63 : n + m ≤ maxLen) (hbytes : (n + m) * bytes ≤ 140737488355328)
    (h : ∀ A' c' w' N X, N = n + m → X = xs ++ news → Mst W w' bl (pre ++ ⟨e, size, .slice A' N c', N, X⟩ :: post) → wpList P ops Q rest (a.put o.dst (.slice A' N c')) w') : wpList P ops Q (o :: rest) a w :=
  wpList_appM hgd s x t ho pre hm hE hs B A m c news hx hr h1 h63 hbytes fun A' c' w' hm' => h A' c' w' _ _ rfl rfl hm'
end
/-- A row of one element of four cells, behind the first row. -/
theorem Mst.row4E {W w w2 : World} {bl : Bl} {y1 : Ro} {ow : List Ro} {e : TypeId} {a b c d : Value} (h : Mst W w bl (y1 :: ow)) (hw : w.alloc (.cells #[a, b, c, d] e) = w2) : ∃ g, w.heap.size = g ∧ Mst W w2 bl (y1 :: ⟨e, 4, .slice (some ⟨g, 0, none⟩) 1 1, 1, [a, b, c, d]⟩ :: ow) := by
  subst hw
  exact ⟨_, rfl, (h.newrow e 4 1 1 #[a, b, c, d] (Nat.le_refl _) (by decide) rfl).perm (List.Perm.refl _) (List.Perm.swap _ _ _)⟩
end Go.Proofs.YtnopmdhjamkoaaaDoor
