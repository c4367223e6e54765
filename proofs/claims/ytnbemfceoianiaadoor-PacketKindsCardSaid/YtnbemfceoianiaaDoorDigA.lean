/- FewP. Dig1. Dig2. -/
import Derived.Test.YtnbemfceoianiaaDoorShaA
import Derived.Deep.DeepCutAuto
import Derived.Test.YtnbemfceoianiaaDoorRefX
import Derived.Test.YtnbemfceoianiaaDoorBaseA
import Derived.Test.YtnbemfceoianiaaDoorOpenA
import Derived.Deep.RegionHeld3
import Derived.Lib.Builder
/- Few parts, cut: plain. -/
namespace Go.Proofs.YtnbemfceoianiaaDoor
set_option linter.unusedVariables false
open Go.RowKit

/-- A part's first N bytes. -/
def Pt.cut (p : Pt) (N : Nat) : Pt := ⟨p.A, p.c, p.l.take N⟩
/-- The first M parts, cut. -/
def fewP (M N : Nat) (ps : List Pt) : List Pt := (ps.take M).map (Pt.cut · N)
theorem fewP_len (M N : Nat) (ps : List Pt) : (fewP M N ps).length = min M ps.length := by simp [fewP]
theorem fewP_get (M N : Nat) {ps : List Pt} {k : Nat} {p : Pt} (h : ps[k]? = some p) (hk : k < M) : (fewP M N ps)[k]? = some (p.cut N) := by
  simp [fewP, List.getElem?_map, hk, h]
theorem catP_len_le {ps : List Pt} {N : Nat} (h : ∀ p ∈ ps, p.l.length ≤ N) : (catP ps).length ≤ ps.length * N := by
  induction ps with
  | nil => simp [catP]
  | cons p ps ih =>
    rw [catP_cons, List.length_append, List.length_cons, Nat.add_mul]
    have h1 := h p (List.mem_cons_self ..)
    have h2 := ih fun q hq => h q (List.mem_cons_of_mem _ hq)
    omega
theorem fewP_le (M N : Nat) (ps : List Pt) : ∀ p ∈ fewP M N ps, p.l.length ≤ N := by
  intro p hp
  simp only [fewP, List.mem_map] at hp
  obtain ⟨q, _, rfl⟩ := hp
  simp [Pt.cut]
  omega
/-- A slice's first bytes. -/
theorem RB.cut {w : World} {B : Nat} {A : Option Addr} {l : List UInt8} (h : RB w B A l) (N : Nat) : RB w B A (l.take N) := by
  refine ⟨by simp [by8], fun hn => ?_⟩
  obtain ⟨b, o, e, hb, hc⟩ := h.2 (by simp at hn; omega)
  refine ⟨b, o, e, hb, fun j u hu => hc j u ?_⟩
  simp only [by8, List.map_take] at hu
  rw [List.getElem?_take] at hu
  split at hu
  · exact hu
  · cases hu
theorem el_bs : El Tryd.prog 64 30 1 24 := El.of Tryd.underlying64 (z := .slice none 0 0) (by kernel_rfl) rfl (by decide)
structure QEq (qs : List Pt) (k : Nat) (q : Pt) : Prop where
  tk : qs.take (k + 1) = qs.take k ++ [q]
  ct : catP (qs.take (k + 1)) = catP (qs.take k) ++ q.l
structure FeR (w wr : World) (qs : List Pt) (k : Nat) (v1 v2 : Value) : Prop where
  m : Mst w wr [] [⟨30, 1, v1, k, (qs.take k).map Pt.v⟩, ⟨5, 1, v2, (catP (qs.take k)).length, by8 (catP (qs.take k))⟩]
theorem few_next {w wr : World} {qs : List Pt} {k S L : Nat} {pA : Option Addr} {pc : Nat} {b : List UInt8} {v1 v2 : Value} (hq : QEq qs k ⟨pA, pc, b⟩) (hS : (catP (qs.take k)).length = S) (hL : b.length = L)
    (h : Mst w wr [] [⟨30, 1, v1, k + 1, (qs.take k).map Pt.v ++ [.slice pA L pc]⟩, ⟨5, 1, v2, S + L, by8 (catP (qs.take k)) ++ by8 b⟩]) : FeR w wr qs (k + 1) v1 v2 := by
  refine ⟨?_⟩
  rw [hq.ct, hq.tk, List.map_append, List.length_append, by8_append, hS]
  subst hL
  exact h
end Go.Proofs.YtnbemfceoianiaaDoor

/- What the laws of digests share: parts as the opener gives them, what few has made, two digests compared. -/
namespace Go.Proofs.YtnbemfceoianiaaDoor
set_option linter.unusedVariables false
open Go.RowKit

theorem rows_pt {W : World} : ∀ rows : List Rw, (∀ x ∈ rows, x.ok .u8 W) → ∃ ps : List Pt, ps.map Pt.v = rows.map Rw.v ∧ ps.length = rows.length ∧ ∀ p ∈ ps, RB W W.heap.size p.A p.l ∧ p.l.length ≤ p.c ∧ p.c ≤ 9223372036854775807
  | [], _ => ⟨[], rfl, rfl, by simp⟩
  | x :: rows, h => by
    obtain ⟨ps, h1, h2, h3⟩ := rows_pt rows fun f hf => h f (List.mem_cons_of_mem _ hf)
    have ok := h x (List.mem_cons_self ..)
    obtain ⟨l, e1, e2⟩ := bytes_of x.zs ok.wf
    have hrd := ok.rd
    have hle := ok.le
    have hcap := ok.cap
    rw [e1, ← e2] at hrd
    rw [← e2] at hle
    refine ⟨⟨x.A, x.c, l⟩ :: ps, ?_, by simp [h2], fun p hp => ?_⟩
    · rw [List.map_cons, h1, List.map_cons]
      unfold Pt.v Rw.v
      rw [e2]
    · rcases List.mem_cons.1 hp with rfl | hp
      · exact ⟨hrd, hle, by unfold maxLen at hcap; exact hcap⟩
      · exact h3 p hp
theorem rw_pt {W : World} {r : Rw} (ok : r.ok .u8 W) : ∃ l : List UInt8, r.v = .slice r.A l.length r.c ∧ RB W W.heap.size r.A l ∧ l.length ≤ r.c ∧ r.c ≤ 9223372036854775807 := by
  obtain ⟨l, e1, e2⟩ := bytes_of r.zs ok.wf
  have hrd := ok.rd
  have hle := ok.le
  have hcap := ok.cap
  rw [e1, ← e2] at hrd
  rw [← e2] at hle
  exact ⟨l, by unfold Rw.v; rw [e2], hrd, hle, by unfold maxLen at hcap; exact hcap⟩
theorem fewP_old {W : World} {M N : Nat} {ps : List Pt} (h : ∀ p ∈ ps, RB W W.heap.size p.A p.l) : ∀ q ∈ fewP M N ps, RB W W.heap.size q.A q.l := by
  intro q hq
  simp only [fewP, List.mem_map] at hq
  obtain ⟨p, hp, rfl⟩ := hq
  exact (h p (List.mem_of_mem_take hp)).cut N
theorem fe_open {W w : World} {qs : List Pt} {n : Nat} (hn : qs.length = n) {v1 v2 : Value} (h : FeR W w qs n v1 v2) (hq : ∀ q ∈ qs, RB W W.heap.size q.A q.l) :
    ∃ A1 c1 A2 c2 ow, v1 = .slice A1 n c1 ∧ v2 = .slice A2 (catP qs).length c2 ∧ Mst W w [] ow ∧ SPts W [] ow A1 qs ∧ Src W [] ow 1 A2 (catP qs).length (by8 (catP qs)) := by
  subst hn
  obtain ⟨m⟩ := h
  rw [List.take_of_length_le (Nat.le_refl _)] at m
  obtain ⟨A1, c1, rfl, -⟩ := own_form (m.row [])
  obtain ⟨A2, c2, rfl, -⟩ := own_form (m.row [_])
  exact ⟨A1, c1, A2, c2, _, rfl, rfl, m, ⟨m.rowSrc (List.mem_cons_self ..), fun p hp => Src.old (hq p hp)⟩, m.rowSrc (List.mem_cons_of_mem _ (List.mem_cons_self ..))⟩
theorem Mst.one {W w : World} {bl : Bl} {ow : List Ro} (h : Mst W w bl ow) {A : Option Addr} {l : List UInt8} (hs : Src W bl ow 1 A l.length (by8 l)) (c : Nat) :
    Mst W (w.alloc (.cells #[.slice A l.length c] 30)) bl (⟨30, 1, .slice (some ⟨w.heap.size, 0, none⟩) 1 1, 1, [.slice A l.length c]⟩ :: ow) ∧
    Pts (w.alloc (.cells #[.slice A l.length c] 30)) (some ⟨w.heap.size, 0, none⟩) [⟨A, c, l⟩] := by
  have m1 := h.newrow 30 1 1 1 #[.slice A l.length c] (Nat.le_refl _) (by decide) rfl
  refine ⟨m1, m1.src (m1.rowSrc (List.mem_cons_self ..)), fun p hp => ?_⟩
  obtain rfl : p = ⟨A, c, l⟩ := by simpa using hp
  exact m1.src (hs.cr _)
theorem arr32_eq (t : TypeId) (e : TypeId) {P : Program} (ht : P.underlying t = some (.array 32 e)) (he : P.underlying e = some (.int .u8)) (hs : ∀ w, (sizeOf e).run P w = .ok 1 w) (K K' : List UInt8) (h : K.length = 32) (h' : K'.length = 32) (w : World) :
    (binOp .eql t (.agg (b8a K)) (.agg (b8a K'))).run P w = .ok (.bool (K == K')) w := by
  have e1 : ∀ l : List UInt8, b8a l = ((l.map fun b => (b.toNat : Int)).map (Value.int .u8)).toArray := fun l => by simp [b8a, by8]
  rw [e1, e1, run_eql_ints w .u8 t e 32 ht he hs _ _ (by simpa using h) (by simpa using h')]
  congr 2
  rw [Bool.eq_iff_iff]
  simp only [beq_iff_eq]
  constructor
  · intro h1
    refine List.map_inj_right ?_ |>.1 h1
    intro x y hxy
    exact UInt8.toNat_inj.1 (by omega)
  · rintro rfl; rfl
theorem eq32 (K K' : List UInt8) (h : K.length = 32) (h' : K'.length = 32) (w : World) : (binOp .eql 31 (.agg (b8a K)) (.agg (b8a K'))).run Tryd.prog w = .ok (.bool (K == K')) w :=
  arr32_eq 31 5 Tryd.underlying31 Tryd.underlying5 (size_of (by kernel_rfl)) K K' h h' w
theorem ra_alloc {w : World} {g o : Nat} {xs : List Value} (h : w.rangeAt g o xs) (ob : Obj) : (w.alloc ob).rangeAt g o xs := fun j v hv => by
  have h1 := h j v hv
  have h2 := block_lt_of_cell h1
  exact (((Below.refl w.heap.size w).alloc (Nat.le_refl _) ob).cell (p := ⟨g, o + j, none⟩) h2).trans h1
theorem ra_below {w w' : World} {g o : Nat} {xs : List Value} (h : w.rangeAt g o xs) (hb : Below w.heap.size w w') : w'.rangeAt g o xs := fun j v hv => by
  have h1 := h j v hv
  have h2 := block_lt_of_cell h1
  exact (hb.cell (p := ⟨g, o + j, none⟩) h2).trans h1
theorem info_k {K : List UInt8} (h : K.length = 32) : (Tryd.prog.info? 31).map (·.size) = some (b8a K).size := by rw [b8a_size, h]; exact info_arr32
theorem info_kL {K : List UInt8} (h : K.length = 32) : (Tryd.prog.info? 31).map (·.size) = some (b8a K).toList.length := by rw [Array.length_toList]; exact info_k h
theorem y32_k {K : List UInt8} (h : K.length = 32) : Y32.size = (b8a K).size := by rw [b8a_size, h]; rfl
end Go.Proofs.YtnbemfceoianiaaDoor

/- Steps of a running digest beside other memory; the table as a block. -/
namespace Go.Proofs.YtnbemfceoianiaaDoor
set_option linter.unusedVariables false
open Go.RowKit

theorem ne32 (K K' : List UInt8) (h : K.length = 32) (h' : K'.length = 32) (w : World) : (binOp .neq 31 (.agg (b8a K)) (.agg (b8a K'))).run Tryd.prog w = .ok (.bool (!(K == K'))) w := by
  have h1 := eq32 K K' h h' w
  rw [run_eql_struct] at h1
  rw [run_neq_struct]
  cases hr : (Op.equalIn 10000 31 (.agg (b8a K)) (.agg (b8a K'))).run Tryd.prog w with
  | ok b w' =>
    rw [hr] at h1
    simp only [Result.andThen_ok, Result.ok.injEq, Value.bool.injEq] at h1
    obtain ⟨rfl, rfl⟩ := h1
    rfl
  | _ => rw [hr] at h1; simp [Result.andThen] at h1
section
variable {W w w' : World} {xb : Bl} {xr : List Ro} {g : Nat} {st : Option (List UInt8)}
end
theorem SPts.cr {W : World} {xb : Bl} {xr : List Ro} {A : Option Addr} {ps : List Pt} (h : SPts W xb xr A ps) (y : Ro) : SPts W xb (y :: xr) A ps := h.sub (fun _ h => h) (fun _ h => List.mem_cons_of_mem _ h)
theorem catP_pre (qs : List Pt) (k : Nat) : (catP qs).take (catP (qs.take k)).length = catP (qs.take k) := by
  have h : catP qs = catP (qs.take k) ++ catP (qs.drop k) := by rw [← catP_append, List.take_append_drop]
  rw [h, List.take_left]
end Go.Proofs.YtnbemfceoianiaaDoor
