/- FewP. Dig1. Dig2. -/
import Derived.Test.YtnbemfceoianiaaShaA
import Derived.Deep.DeepCutAuto
import Derived.Test.YtnbemfceoianiaaRefX
import Derived.Test.YtnbemfceoianiaaBaseA
import Derived.Test.YtnbemfceoianiaaOpenA
import Derived.Deep.RegionHeld3
import Derived.Lib.Builder
/- Few parts, cut: plain. -/
namespace Go.Proofs.Ytnbemfceoianiaa
set_option linter.unusedVariables false
open Go.RowKit

/-- A part's first N bytes. -/
def Pt.cut (p : Pt) (N : Nat) : Pt := ⟨p.A, p.c, p.l.take N⟩
/-- The first M parts, cut. -/
def fewP (M N : Nat) (ps : List Pt) : List Pt := (ps.take M).map (Pt.cut · N)
theorem fewP_len (M N : Nat) (ps : List Pt) : (fewP M N ps).length = min M ps.length := by simp [fewP]
theorem fewP_get (M N : Nat) {ps : List Pt} {k : Nat} {p : Pt} (h : ps[k]? = some p) (hk : k < M) : (fewP M N ps)[k]? = some (p.cut N) := by
  simp [fewP, List.getElem?_map, hk, h]
theorem catP_len_le {ps : List Pt} {N : Nat} (h : ∀ p ∈ ps, p.l.length ≤ N) : (catP ps).length ≤ ps.length * N := by
  induction ps with
  | nil => simp [catP]
  | cons p ps ih =>
    rw [catP_cons, List.length_append, List.length_cons, Nat.add_mul]
    have h1 := h p (List.mem_cons_self ..)
    have h2 := ih fun q hq => h q (List.mem_cons_of_mem _ hq)
    omega
theorem fewP_le (M N : Nat) (ps : List Pt) : ∀ p ∈ fewP M N ps, p.l.length ≤ N := by
  intro p hp
  simp only [fewP, List.mem_map] at hp
  obtain ⟨q, _, rfl⟩ := hp
  simp [Pt.cut]
  omega
/-- A slice's first bytes. -/
theorem RB.cut {w : World} {B : Nat} {A : Option Addr} {l : List UInt8} (h : RB w B A l) (N : Nat) : RB w B A (l.take N) := by
  refine ⟨by simp [by8], fun hn => ?_⟩
  obtain ⟨b, o, e, hb, hc⟩ := h.2 (by simp at hn; omega)
  refine ⟨b, o, e, hb, fun j u hu => hc j u ?_⟩
  simp only [by8, List.map_take] at hu
  rw [List.getElem?_take] at hu
  split at hu
  · exact hu
  · cases hu
theorem el_bs : El Try.prog 95 26 1 24 := El.of Try.underlying95 (z := .slice none 0 0) (by kernel_rfl) rfl (by decide)
structure QEq (qs : List Pt) (k : Nat) (q : Pt) : Prop where
  tk : qs.take (k + 1) = qs.take k ++ [q]
  ct : catP (qs.take (k + 1)) = catP (qs.take k) ++ q.l
structure FeR (w wr : World) (qs : List Pt) (k : Nat) (v1 v2 : Value) : Prop where
  m : Mst w wr [] [⟨26, 1, v1, k, (qs.take k).map Pt.v⟩, ⟨5, 1, v2, (catP (qs.take k)).length, by8 (catP (qs.take k))⟩]
theorem few_next {w wr : World} {qs : List Pt} {k S L : Nat} {pA : Option Addr} {pc : Nat} {b : List UInt8} {v1 v2 : Value} (hq : QEq qs k ⟨pA, pc, b⟩) (hS : (catP (qs.take k)).length = S) (hL : b.length = L)
    (h : Mst w wr [] [⟨26, 1, v1, k + 1, (qs.take k).map Pt.v ++ [.slice pA L pc]⟩, ⟨5, 1, v2, S + L, by8 (catP (qs.take k)) ++ by8 b⟩]) : FeR w wr qs (k + 1) v1 v2 := by
  refine ⟨?_⟩
  rw [hq.ct, hq.tk, List.map_append, List.length_append, by8_append, hS]
  subst hL
  exact h
end Go.Proofs.Ytnbemfceoianiaa

/- What the laws of digests share: parts as the opener gives them, what few has made, two digests compared. -/
namespace Go.Proofs.Ytnbemfceoianiaa
set_option linter.unusedVariables false
open Go.RowKit

theorem rows_pt {W : World} : ∀ rows : List Rw, (∀ x ∈ rows, x.ok .u8 W) → ∃ ps : List Pt, ps.map Pt.v = rows.map Rw.v ∧ ps.length = rows.length ∧ ∀ p ∈ ps, RB W W.heap.size p.A p.l ∧ p.l.length ≤ p.c ∧ p.c ≤ 9223372036854775807
  | [], _ => ⟨[], rfl, rfl, by simp⟩
  | x :: rows, h => by
    obtain ⟨ps, h1, h2, h3⟩ := rows_pt rows fun f hf => h f (List.mem_cons_of_mem _ hf)
    have ok := h x (List.mem_cons_self ..)
    obtain ⟨l, e1, e2⟩ := bytes_of x.zs ok.wf
    have hrd := ok.rd
    have hle := ok.le
    have hcap := ok.cap
    rw [e1, ← e2] at hrd
    rw [← e2] at hle
    refine ⟨⟨x.A, x.c, l⟩ :: ps, ?_, by simp [h2], fun p hp => ?_⟩
    · rw [List.map_cons, h1, List.map_cons]
      unfold Pt.v Rw.v
      rw [e2]
    · rcases List.mem_cons.1 hp with rfl | hp
      · exact ⟨hrd, hle, by unfold maxLen at hcap; exact hcap⟩
      · exact h3 p hp
theorem rw_pt {W : World} {r : Rw} (ok : r.ok .u8 W) : ∃ l : List UInt8, r.v = .slice r.A l.length r.c ∧ RB W W.heap.size r.A l ∧ l.length ≤ r.c ∧ r.c ≤ 9223372036854775807 := by
  obtain ⟨l, e1, e2⟩ := bytes_of r.zs ok.wf
  have hrd := ok.rd
  have hle := ok.le
  have hcap := ok.cap
  rw [e1, ← e2] at hrd
  rw [← e2] at hle
  exact ⟨l, by unfold Rw.v; rw [e2], hrd, hle, by unfold maxLen at hcap; exact hcap⟩
theorem fewP_old {W : World} {M N : Nat} {ps : List Pt} (h : ∀ p ∈ ps, RB W W.heap.size p.A p.l) : ∀ q ∈ fewP M N ps, RB W W.heap.size q.A q.l := by
  intro q hq
  simp only [fewP, List.mem_map] at hq
  obtain ⟨p, hp, rfl⟩ := hq
  exact (h p (List.mem_of_mem_take hp)).cut N
theorem fe_open {W w : World} {qs : List Pt} {n : Nat} (hn : qs.length = n) {v1 v2 : Value} (h : FeR W w qs n v1 v2) (hq : ∀ q ∈ qs, RB W W.heap.size q.A q.l) :
    ∃ A1 c1 A2 c2 ow, v1 = .slice A1 n c1 ∧ v2 = .slice A2 (catP qs).length c2 ∧ Mst W w [] ow ∧ SPts W [] ow A1 qs ∧ Src W [] ow 1 A2 (catP qs).length (by8 (catP qs)) := by
  subst hn
  obtain ⟨m⟩ := h
  rw [List.take_of_length_le (Nat.le_refl _)] at m
  obtain ⟨A1, c1, rfl, -⟩ := own_form (m.row [])
  obtain ⟨A2, c2, rfl, -⟩ := own_form (m.row [_])
  exact ⟨A1, c1, A2, c2, _, rfl, rfl, m, ⟨m.rowSrc (List.mem_cons_self ..), fun p hp => Src.old (hq p hp)⟩, m.rowSrc (List.mem_cons_of_mem _ (List.mem_cons_self ..))⟩
theorem Mst.one {W w : World} {bl : Bl} {ow : List Ro} (h : Mst W w bl ow) {A : Option Addr} {l : List UInt8} (hs : Src W bl ow 1 A l.length (by8 l)) (c : Nat) :
    Mst W (w.alloc (.cells #[.slice A l.length c] 26)) bl (⟨26, 1, .slice (some ⟨w.heap.size, 0, none⟩) 1 1, 1, [.slice A l.length c]⟩ :: ow) ∧
    Pts (w.alloc (.cells #[.slice A l.length c] 26)) (some ⟨w.heap.size, 0, none⟩) [⟨A, c, l⟩] := by
  have m1 := h.newrow 26 1 1 1 #[.slice A l.length c] (Nat.le_refl _) (by decide) rfl
  refine ⟨m1, m1.src (m1.rowSrc (List.mem_cons_self ..)), fun p hp => ?_⟩
  obtain rfl : p = ⟨A, c, l⟩ := by simpa using hp
  exact m1.src (hs.cr _)
theorem arr32_eq (t : TypeId) (e : TypeId) {P : Program} (ht : P.underlying t = some (.array 32 e)) (he : P.underlying e = some (.int .u8)) (hs : ∀ w, (sizeOf e).run P w = .ok 1 w) (K K' : List UInt8) (h : K.length = 32) (h' : K'.length = 32) (w : World) :
    (binOp .eql t (.agg (b8a K)) (.agg (b8a K'))).run P w = .ok (.bool (K == K')) w := by
  have e1 : ∀ l : List UInt8, b8a l = ((l.map fun b => (b.toNat : Int)).map (Value.int .u8)).toArray := fun l => by simp [b8a, by8]
  rw [e1, e1, run_eql_ints w .u8 t e 32 ht he hs _ _ (by simpa using h) (by simpa using h')]
  congr 2
  rw [Bool.eq_iff_iff]
  simp only [beq_iff_eq]
  constructor
  · intro h1
    refine List.map_inj_right ?_ |>.1 h1
    intro x y hxy
    exact UInt8.toNat_inj.1 (by omega)
  · rintro rfl; rfl
theorem eq32 (K K' : List UInt8) (h : K.length = 32) (h' : K'.length = 32) (w : World) : (binOp .eql 27 (.agg (b8a K)) (.agg (b8a K'))).run Try.prog w = .ok (.bool (K == K')) w :=
  arr32_eq 27 5 Try.underlying27 Try.underlying5 (size_of (by kernel_rfl)) K K' h h' w
theorem ra_alloc {w : World} {g o : Nat} {xs : List Value} (h : w.rangeAt g o xs) (ob : Obj) : (w.alloc ob).rangeAt g o xs := fun j v hv => by
  have h1 := h j v hv
  have h2 := block_lt_of_cell h1
  exact (((Below.refl w.heap.size w).alloc (Nat.le_refl _) ob).cell (p := ⟨g, o + j, none⟩) h2).trans h1
theorem ra_below {w w' : World} {g o : Nat} {xs : List Value} (h : w.rangeAt g o xs) (hb : Below w.heap.size w w') : w'.rangeAt g o xs := fun j v hv => by
  have h1 := h j v hv
  have h2 := block_lt_of_cell h1
  exact (hb.cell (p := ⟨g, o + j, none⟩) h2).trans h1
/-- The digests' table, by its name; what the document's Sum answers. -/
theorem ref_sum : ∃ KT : Array Value, (∀ w, Calls Try.prog 9 #[] w fun e w' => e = .returned (.agg KT) ∧ Below w.heap.size w w') ∧
    ∀ (w : World) (A : Option Addr) (c : Nat) (l : List UInt8), RB w w.heap.size A l → l.length ≤ 900000 → Calls Try.prog 52 #[.agg KT, .slice A l.length c] w fun e w' => e = .returned (.agg (b8a (sha l))) ∧ Below w.heap.size w w' :=
  ⟨Ws (kTab ++ h0.l), make_any, refsum_any⟩
theorem info_k {K : List UInt8} (h : K.length = 32) : (Try.prog.info? 27).map (·.size) = some (b8a K).size := by rw [b8a_size, h]; exact info_arr32
theorem info_kL {K : List UInt8} (h : K.length = 32) : (Try.prog.info? 27).map (·.size) = some (b8a K).toList.length := by rw [Array.length_toList]; exact info_k h
theorem y32_k {K : List UInt8} (h : K.length = 32) : Y32.size = (b8a K).size := by rw [b8a_size, h]; rfl
end Go.Proofs.Ytnbemfceoianiaa

/- Steps of a running digest beside other memory; the table as a block. -/
namespace Go.Proofs.Ytnbemfceoianiaa
set_option linter.unusedVariables false
open Go.RowKit

theorem ref_sum2 : ∃ KT : Array Value, (∀ w, Calls Try.prog 9 #[] w fun e w' => e = .returned (.agg KT) ∧ Below w.heap.size w w') ∧
    (∀ (w : World) (A : Option Addr) (c : Nat) (l : List UInt8), RB w w.heap.size A l → l.length ≤ 900000 → Calls Try.prog 52 #[.agg KT, .slice A l.length c] w fun e w' => e = .returned (.agg (b8a (sha l))) ∧ Below w.heap.size w w') ∧
    (Try.prog.info? 45).map (·.size) = some KT.size ∧ Z72.size = KT.size ∧ KT.all (·.oneCell') = true :=
  ⟨Ws (kTab ++ h0.l), make_any, refsum_any, info_tab, rfl, Ws_one _⟩
theorem ne32 (K K' : List UInt8) (h : K.length = 32) (h' : K'.length = 32) (w : World) : (binOp .neq 27 (.agg (b8a K)) (.agg (b8a K'))).run Try.prog w = .ok (.bool (!(K == K'))) w := by
  have h1 := eq32 K K' h h' w
  rw [run_eql_struct] at h1
  rw [run_neq_struct]
  cases hr : (Op.equalIn 10000 27 (.agg (b8a K)) (.agg (b8a K'))).run Try.prog w with
  | ok b w' =>
    rw [hr] at h1
    simp only [Result.andThen_ok, Result.ok.injEq, Value.bool.injEq] at h1
    obtain ⟨rfl, rfl⟩ := h1
    rfl
  | _ => rw [hr] at h1; simp [Result.andThen] at h1
theorem neR (a : Addr) (w : World) : (binOp .neq 118 (.pointer (some a)) (.pointer (some a))).run Try.prog w = .ok (.bool false) w := by
  obtain ⟨j, hj⟩ := Option.isSome_iff_exists.1 (show (Try.prog.info? 117).isSome = true by kernel_rfl)
  exact Lib.run_neq_ptr_same w a Try.underlying118 hj
section
variable {W w w' : World} {xb : Bl} {xr : List Ro} {g : Nat} {st : Option (List UInt8)}
theorem RunX.below (h : RunX W w xb xr g st) (hb : Below w.heap.size w w') : RunX W w' xb xr g st := by
  obtain ⟨x, hr, h1, h2⟩ := h
  exact ⟨x, hr, h1, h2.below hb⟩
theorem RunX.subr {y : Ro} (h : RunX W w xb (y :: xr) g st) : RunX W w xb xr g st := by
  obtain ⟨x, hr, h1, h2⟩ := h
  exact ⟨x, hr, h1, h2.sub (List.Sublist.refl _) (List.sublist_cons_self _ _ |>.append_left _)⟩
theorem RunX.row {e : TypeId} {size n cap : Nat} {cs : Array Value} (h : RunX W w xb xr g st) (hn : n ≤ cap) (hm : cap ≤ maxLen) (hs : cs.size = cap * size) :
    RunX W (w.alloc (.cells cs e)) xb (⟨e, size, .slice (some ⟨w.heap.size, 0, none⟩) n cap, n, cs.toList.take (n * size)⟩ :: xr) g st := by
  obtain ⟨x, hr, h1, h2⟩ := h
  exact ⟨x, hr, h1, (h2.newrow e size n cap cs hn hm hs).perm (List.Perm.refl _) List.perm_middle.symm⟩
theorem RunX.one (h : RunX W w xb xr g st) {A : Option Addr} {l : List UInt8} (hs : Src W xb xr 1 A l.length (by8 l)) (c : Nat) :
    RunX W (w.alloc (.cells #[.slice A l.length c] 26)) xb (⟨26, 1, .slice (some ⟨w.heap.size, 0, none⟩) 1 1, 1, [.slice A l.length c]⟩ :: xr) g st ∧
    SPts W xb (⟨26, 1, .slice (some ⟨w.heap.size, 0, none⟩) 1 1, 1, [.slice A l.length c]⟩ :: xr) (some ⟨w.heap.size, 0, none⟩) [⟨A, c, l⟩] := by
  refine ⟨h.row (n := 1) (cap := 1) (cs := #[.slice A l.length c]) (Nat.le_refl _) (by decide) rfl, ?_, fun p hp => ?_⟩
  · obtain ⟨x, hr, h1, h2⟩ := h
    have h3 := (h2.newrow 26 1 1 1 #[.slice A l.length c] (Nat.le_refl _) (by decide) rfl).sub (bl' := xb) (ow' := ⟨26, 1, .slice (some ⟨w.heap.size, 0, none⟩) 1 1, 1, [.slice A l.length c]⟩ :: xr) (List.sublist_cons_self _ _) (List.Sublist.cons_cons _ (List.sublist_append_right _ _))
    exact h3.rowSrc (List.mem_cons_self ..)
  · obtain rfl : p = ⟨A, c, l⟩ := by simpa using hp
    exact hs.cr _
theorem RunX.src (h : RunX W w xb xr g st) {size n : Nat} {A : Option Addr} {xs : List Value} (hs : Src W xb xr size A n xs) : Rd w w.heap.size size A n xs := by
  obtain ⟨x, hr, h1, h2⟩ := h
  exact h2.src (hs.sub (fun x hx => List.mem_cons_of_mem _ hx) (fun y hy => List.mem_append_right _ hy))
theorem RunX.bel (h : RunX W w xb xr g st) : Below W.heap.size W w := by
  obtain ⟨x, hr, h1, h2⟩ := h
  exact h2.bel
theorem RunX.bk (h : RunX W w xb xr g st) {y : Nat × TypeId × Array Value} (hy : y ∈ xb) : Bk w y.1 y.2.1 y.2.2 := by
  obtain ⟨x, hr, h1, h2⟩ := h
  exact (h2.bk y (List.mem_cons_of_mem _ hy)).1
theorem RunX.sum (h : RunX W w xb xr g st) (hl : (told st).length ≤ 900000) :
    Calls Try.prog 67 #[.pointer (some ⟨g, 0, none⟩)] w fun e w' => e = .returned (.agg (b8a (sha (told st)))) ∧ RunX W w' xb xr g st := by
  obtain ⟨x, hr, h1, h2⟩ := h
  refine (rsum_any W w xb xr g st x hr h1 h2 hl).mono ?_
  rintro e w' ⟨rfl, h3⟩
  exact ⟨rfl, x, hr, h1, h3⟩
/-- A copy: the first is among what lies beside it. -/
theorem RunX.copy (h : RunX W w xb xr g st) (hl : (told st).length ≤ 1000000) : Calls Try.prog 81 #[.pointer (some ⟨g, 0, none⟩)] w fun e w' =>
    ∃ gc xc hc, e = .returned (.pointer (some ⟨gc, 0, none⟩)) ∧ RunAt W gc st xc hc ∧ RunX W w' (xc :: xb) (hc ++ xr) g st := by
  obtain ⟨x, hr, h1, h2⟩ := h
  refine (copy_any W w xb xr g st x hr h1 h2 hl).mono ?_
  rintro e w' ⟨gc, xc, hc, rfl, h3, h4⟩
  exact ⟨gc, xc, hc, rfl, h3, x, hr, h1, h4.perm (List.Perm.swap _ _ _) (List.perm_append_comm_assoc _ _ _)⟩
/-- The other running digest comes to the front. -/
theorem RunX.turn {gc : Nat} {sc : Option (List UInt8)} {xc : Nat × TypeId × Array Value} {hc : List Ro} (h : RunX W w (xc :: xb) (hc ++ xr) g st) (hR : RunAt W gc sc xc hc) :
    ∃ x hr, RunAt W g st x hr ∧ RunX W w (x :: xb) (hr ++ xr) gc sc := by
  obtain ⟨x, hr, h1, h2⟩ := h
  exact ⟨x, hr, h1, xc, hc, hR, h2.perm (List.Perm.swap _ _ _) (List.perm_append_comm_assoc _ _ _)⟩
theorem RunX.turnX {w : World} {W : World} {xb XB : Bl} {xr hr : List Ro} {g gc : Nat} {st sc : Option (List UInt8)} {x : Nat × TypeId × Array Value} (h : RunX W w XB (hr ++ xr) gc sc) (e : x :: xb = XB) (hR : RunAt W g st x hr) :
    ∃ xc hc, RunAt W gc sc xc hc ∧ RunX W w (xc :: xb) (hc ++ xr) g st := by
  subst e
  exact h.turn hR
/-- An append to a row beside. -/
theorem RunX.mst (h : RunX W w xb xr g st) : Mst W w xb xr := by
  obtain ⟨x, hr, h1, h2⟩ := h
  exact h2.sub (List.sublist_cons_self _ _) (List.sublist_append_right _ _)
end
theorem RunX.subl {W w : World} {xb xb' : Bl} {xr xr' : List Ro} {g : Nat} {st : Option (List UInt8)} (h : RunX W w xb xr g st) (h1 : List.Sublist xb' xb) (h2 : List.Sublist xr' xr) : RunX W w xb' xr' g st := by
  obtain ⟨x, hr, h3, h4⟩ := h
  exact ⟨x, hr, h3, h4.sub (List.Sublist.cons_cons _ h1) (h2.append_left _)⟩
theorem SPts.cr {W : World} {xb : Bl} {xr : List Ro} {A : Option Addr} {ps : List Pt} (h : SPts W xb xr A ps) (y : Ro) : SPts W xb (y :: xr) A ps := h.sub (fun _ h => h) (fun _ h => List.mem_cons_of_mem _ h)
theorem RunX.swap {W w : World} {xb : Bl} {xr : List Ro} {y z : Ro} {g : Nat} {st : Option (List UInt8)} (h : RunX W w xb (y :: z :: xr) g st) : RunX W w xb (z :: y :: xr) g st := by
  obtain ⟨x, hr, h3, h4⟩ := h
  exact ⟨x, hr, h3, h4.perm (List.Perm.refl _) ((List.Perm.refl hr).append (List.Perm.swap _ _ _))⟩
theorem RunX.rowE {W w w2 : World} {xb : Bl} {xr : List Ro} {g : Nat} {st : Option (List UInt8)} {e : TypeId} (h : RunX W w xb xr g st) (hw : w.alloc (.cells #[] e) = w2) :
    RunX W w2 xb (⟨e, 1, .slice (some ⟨w.heap.size, 0, none⟩) 0 0, 0, []⟩ :: xr) g st := by
  subst hw
  exact h.row (size := 1) (n := 0) (cap := 0) (cs := #[]) (Nat.le_refl _) (by decide) rfl
theorem RunX.oneE {W w w2 : World} {xb : Bl} {xr : List Ro} {g : Nat} {st : Option (List UInt8)} (h : RunX W w xb xr g st) {A : Option Addr} {l : List UInt8} {n : Nat} (hn : l.length = n) (hs : Src W xb xr 1 A n (by8 l)) {c : Nat} (hw : w.alloc (.cells #[.slice A n c] 26) = w2) :
    ∃ y, RunX W w2 xb (y :: xr) g st ∧ SPts W xb (y :: xr) (some ⟨w.heap.size, 0, none⟩) [⟨A, c, l⟩] := by
  subst hw
  subst hn
  exact ⟨_, h.one hs c⟩
theorem step_appX {W w : World} {xb : Bl} {g : Nat} {st : Option (List UInt8)} {ops : Array Oper} {o : Oper} {a : Act} {K : Act → World → Prop} {Q : Exit → Act → World → Prop} {E : Prop} (hw : Region.wanted o (yielded ops a.tmps) = true) (s x : Operand) (t : TypeId)
    (ho : o.op = .call { callee := .builtin .append, args := #[s, x], argTypes := #[t, t] })
    {xr : List Ro} {e : TypeId} {size n bytes : Nat} {v : Value} {xs : List Value} (hm : RunX W w xb (⟨e, size, v, n, xs⟩ :: xr) g st) (hE : El Try.prog t e size bytes) (hs : a.eval s = v)
    (A : Option Addr) (m c : Nat) (news : List Value) (hx : a.eval x = .slice A m c) (hr : Src W xb xr size A m news) (h1 : ∀ u ∈ news, u.oneCell' = true)
    (h63 : n + m ≤ maxLen) (hbytes : (n + m) * bytes ≤ 140737488355328)
    (h : ∀ A' c' w' N X, N = n + m → X = xs ++ news → RunX W w' xb (⟨e, size, .slice A' N c', N, X⟩ :: xr) g st → K (a.put o.dst (.slice A' N c')) w') :
    if Region.wanted o (yielded ops a.tmps) = true then Oper.wp Try.prog o a w K Q else E := by
  have h0 := hm.src (hr.sub (fun _ h => h) (fun y hy => List.mem_cons_of_mem _ hy))
  obtain ⟨y, hr', h3, h4⟩ := hm
  exact step_appW hw s x t ho hr' h4 hE hs w.heap.size A m c news hx h0 h1 h63 hbytes fun A' c' w' hm' => h A' c' w' _ _ rfl rfl ⟨y, hr', h3, hm'⟩
theorem catP_pre (qs : List Pt) (k : Nat) : (catP qs).take (catP (qs.take k)).length = catP (qs.take k) := by
  have h : catP qs = catP (qs.take k) ++ catP (qs.drop k) := by rw [← catP_append, List.take_append_drop]
  rw [h, List.take_left]
end Go.Proofs.Ytnbemfceoianiaa
