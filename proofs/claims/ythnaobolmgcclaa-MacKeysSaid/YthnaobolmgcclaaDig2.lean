/- Steps of a running digest beside other memory; the table as a block. -/
import Derived.Test.YthnaobolmgcclaaDig1
import Derived.Test.YthnaobolmgcclaaRun4
import Derived.Lib.Builder
namespace Go.Proofs.Ythnaobolmgcclaa
set_option linter.unusedVariables false
open Go.RowKit

theorem ref_sum2 : ∃ KT : Array Value, (∀ w, Calls Try.prog 33 #[] w fun e w' => e = .returned (.agg KT) ∧ Below w.heap.size w w') ∧
    (∀ (w : World) (A : Option Addr) (c : Nat) (l : List UInt8), RB w w.heap.size A l → l.length ≤ 900000 → Calls Try.prog 32 #[.agg KT, .slice A l.length c] w fun e w' => e = .returned (.agg (b8a (sha l))) ∧ Below w.heap.size w w') ∧
    (Try.prog.info? 60).map (·.size) = some KT.size ∧ Z72.size = KT.size ∧ KT.all (·.oneCell') = true :=
  ⟨Ws (kTab ++ h0.l), make_any, refsum_any, info_tab, rfl, Ws_one _⟩
theorem ne32 (K K' : List UInt8) (h : K.length = 32) (h' : K'.length = 32) (w : World) : (binOp .neq 54 (.agg (b8a K)) (.agg (b8a K'))).run Try.prog w = .ok (.bool (!(K == K'))) w := by
  have h1 := eq32 K K' h h' w
  rw [run_eql_struct] at h1
  rw [run_neq_struct]
  cases hr : (Op.equalIn 10000 54 (.agg (b8a K)) (.agg (b8a K'))).run Try.prog w with
  | ok b w' =>
    rw [hr] at h1
    simp only [Result.andThen_ok, Result.ok.injEq, Value.bool.injEq] at h1
    obtain ⟨rfl, rfl⟩ := h1
    rfl
  | _ => rw [hr] at h1; simp [Result.andThen] at h1
theorem neR (a : Addr) (w : World) : (binOp .neq 68 (.pointer (some a)) (.pointer (some a))).run Try.prog w = .ok (.bool false) w := by
  obtain ⟨j, hj⟩ := Option.isSome_iff_exists.1 (show (Try.prog.info? 67).isSome = true by kernel_rfl)
  exact Lib.run_neq_ptr_same w a Try.underlying68 hj
section
variable {W w w' : World} {xb : Bl} {xr : List Ro} {g : Nat} {st : Option (List UInt8)}
theorem RunX.below (h : RunX W w xb xr g st) (hb : Below w.heap.size w w') : RunX W w' xb xr g st := by
  obtain ⟨x, hr, h1, h2⟩ := h
  exact ⟨x, hr, h1, h2.below hb⟩
theorem RunX.subr {y : Ro} (h : RunX W w xb (y :: xr) g st) : RunX W w xb xr g st := by
  obtain ⟨x, hr, h1, h2⟩ := h
  exact ⟨x, hr, h1, h2.sub (List.Sublist.refl _) (List.sublist_cons_self _ _ |>.append_left _)⟩
theorem RunX.row {e : TypeId} {size n cap : Nat} {cs : Array Value} (h : RunX W w xb xr g st) (hn : n ≤ cap) (hm : cap ≤ maxLen) (hs : cs.size = cap * size) :
    RunX W (w.alloc (.cells cs e)) xb (⟨e, size, .slice (some ⟨w.heap.size, 0, none⟩) n cap, n, cs.toList.take (n * size)⟩ :: xr) g st := by
  obtain ⟨x, hr, h1, h2⟩ := h
  exact ⟨x, hr, h1, (h2.newrow e size n cap cs hn hm hs).perm (List.Perm.refl _) List.perm_middle.symm⟩
theorem RunX.one (h : RunX W w xb xr g st) {A : Option Addr} {l : List UInt8} (hs : Src W xb xr 1 A l.length (by8 l)) (c : Nat) :
    RunX W (w.alloc (.cells #[.slice A l.length c] 26)) xb (⟨26, 1, .slice (some ⟨w.heap.size, 0, none⟩) 1 1, 1, [.slice A l.length c]⟩ :: xr) g st ∧
    SPts W xb (⟨26, 1, .slice (some ⟨w.heap.size, 0, none⟩) 1 1, 1, [.slice A l.length c]⟩ :: xr) (some ⟨w.heap.size, 0, none⟩) [⟨A, c, l⟩] := by
  refine ⟨h.row (n := 1) (cap := 1) (cs := #[.slice A l.length c]) (Nat.le_refl _) (by decide) rfl, ?_, fun p hp => ?_⟩
  · obtain ⟨x, hr, h1, h2⟩ := h
    have h3 := (h2.newrow 26 1 1 1 #[.slice A l.length c] (Nat.le_refl _) (by decide) rfl).sub (bl' := xb) (ow' := ⟨26, 1, .slice (some ⟨w.heap.size, 0, none⟩) 1 1, 1, [.slice A l.length c]⟩ :: xr) (List.sublist_cons_self _ _) (List.Sublist.cons_cons _ (List.sublist_append_right _ _))
    exact h3.rowSrc (List.mem_cons_self ..)
  · obtain rfl : p = ⟨A, c, l⟩ := by simpa using hp
    exact hs.cr _
theorem RunX.src (h : RunX W w xb xr g st) {size n : Nat} {A : Option Addr} {xs : List Value} (hs : Src W xb xr size A n xs) : Rd w w.heap.size size A n xs := by
  obtain ⟨x, hr, h1, h2⟩ := h
  exact h2.src (hs.sub (fun x hx => List.mem_cons_of_mem _ hx) (fun y hy => List.mem_append_right _ hy))
theorem RunX.bel (h : RunX W w xb xr g st) : Below W.heap.size W w := by
  obtain ⟨x, hr, h1, h2⟩ := h
  exact h2.bel
theorem RunX.bk (h : RunX W w xb xr g st) {y : Nat × TypeId × Array Value} (hy : y ∈ xb) : Bk w y.1 y.2.1 y.2.2 := by
  obtain ⟨x, hr, h1, h2⟩ := h
  exact (h2.bk y (List.mem_cons_of_mem _ hy)).1
theorem RunX.sum (h : RunX W w xb xr g st) (hl : (told st).length ≤ 900000) :
    Calls Try.prog 37 #[.pointer (some ⟨g, 0, none⟩)] w fun e w' => e = .returned (.agg (b8a (sha (told st)))) ∧ RunX W w' xb xr g st := by
  obtain ⟨x, hr, h1, h2⟩ := h
  refine (rsum_any W w xb xr g st x hr h1 h2 hl).mono ?_
  rintro e w' ⟨rfl, h3⟩
  exact ⟨rfl, x, hr, h1, h3⟩
theorem RunX.len (h : RunX W w xb xr g st) : Calls Try.prog 38 #[.pointer (some ⟨g, 0, none⟩)] w fun e w' => e = .returned (.int .i64 ((told st).length : Nat)) ∧ w' = w := by
  obtain ⟨x, hr, h1, h2⟩ := h
  refine (rlen_any W w xb (hr ++ xr) g st x hr h1 h2).mono ?_
  rintro e w' ⟨rfl, rfl⟩
  exact ⟨rfl, rfl⟩
/-- A copy: the first is among what lies beside it. -/
theorem RunX.copy (h : RunX W w xb xr g st) (hl : (told st).length ≤ 1000000) : Calls Try.prog 39 #[.pointer (some ⟨g, 0, none⟩)] w fun e w' =>
    ∃ gc xc hc, e = .returned (.pointer (some ⟨gc, 0, none⟩)) ∧ RunAt W gc st xc hc ∧ RunX W w' (xc :: xb) (hc ++ xr) g st := by
  obtain ⟨x, hr, h1, h2⟩ := h
  refine (copy_any W w xb xr g st x hr h1 h2 hl).mono ?_
  rintro e w' ⟨gc, xc, hc, rfl, h3, h4⟩
  exact ⟨gc, xc, hc, rfl, h3, x, hr, h1, h4.perm (List.Perm.swap _ _ _) (List.perm_append_comm_assoc _ _ _)⟩
/-- The other running digest comes to the front. -/
theorem RunX.turn {gc : Nat} {sc : Option (List UInt8)} {xc : Nat × TypeId × Array Value} {hc : List Ro} (h : RunX W w (xc :: xb) (hc ++ xr) g st) (hR : RunAt W gc sc xc hc) :
    ∃ x hr, RunAt W g st x hr ∧ RunX W w (x :: xb) (hr ++ xr) gc sc := by
  obtain ⟨x, hr, h1, h2⟩ := h
  exact ⟨x, hr, h1, xc, hc, hR, h2.perm (List.Perm.swap _ _ _) (List.perm_append_comm_assoc _ _ _)⟩
theorem RunX.turnX {w : World} {W : World} {xb XB : Bl} {xr hr : List Ro} {g gc : Nat} {st sc : Option (List UInt8)} {x : Nat × TypeId × Array Value} (h : RunX W w XB (hr ++ xr) gc sc) (e : x :: xb = XB) (hR : RunAt W g st x hr) :
    ∃ xc hc, RunAt W gc sc xc hc ∧ RunX W w (xc :: xb) (hc ++ xr) g st := by
  subst e
  exact h.turn hR
/-- An append to a row beside. -/
theorem RunX.mst (h : RunX W w xb xr g st) : Mst W w xb xr := by
  obtain ⟨x, hr, h1, h2⟩ := h
  exact h2.sub (List.sublist_cons_self _ _) (List.sublist_append_right _ _)
end
theorem RunX.subl {W w : World} {xb xb' : Bl} {xr xr' : List Ro} {g : Nat} {st : Option (List UInt8)} (h : RunX W w xb xr g st) (h1 : List.Sublist xb' xb) (h2 : List.Sublist xr' xr) : RunX W w xb' xr' g st := by
  obtain ⟨x, hr, h3, h4⟩ := h
  exact ⟨x, hr, h3, h4.sub (List.Sublist.cons_cons _ h1) (h2.append_left _)⟩
theorem SPts.cr {W : World} {xb : Bl} {xr : List Ro} {A : Option Addr} {ps : List Pt} (h : SPts W xb xr A ps) (y : Ro) : SPts W xb (y :: xr) A ps := h.sub (fun _ h => h) (fun _ h => List.mem_cons_of_mem _ h)
theorem RunX.swap {W w : World} {xb : Bl} {xr : List Ro} {y z : Ro} {g : Nat} {st : Option (List UInt8)} (h : RunX W w xb (y :: z :: xr) g st) : RunX W w xb (z :: y :: xr) g st := by
  obtain ⟨x, hr, h3, h4⟩ := h
  exact ⟨x, hr, h3, h4.perm (List.Perm.refl _) ((List.Perm.refl hr).append (List.Perm.swap _ _ _))⟩
theorem RunX.rowE {W w w2 : World} {xb : Bl} {xr : List Ro} {g : Nat} {st : Option (List UInt8)} {e : TypeId} (h : RunX W w xb xr g st) (hw : w.alloc (.cells #[] e) = w2) :
    RunX W w2 xb (⟨e, 1, .slice (some ⟨w.heap.size, 0, none⟩) 0 0, 0, []⟩ :: xr) g st := by
  subst hw
  exact h.row (size := 1) (n := 0) (cap := 0) (cs := #[]) (Nat.le_refl _) (by decide) rfl
theorem RunX.oneE {W w w2 : World} {xb : Bl} {xr : List Ro} {g : Nat} {st : Option (List UInt8)} (h : RunX W w xb xr g st) {A : Option Addr} {l : List UInt8} {n : Nat} (hn : l.length = n) (hs : Src W xb xr 1 A n (by8 l)) {c : Nat} (hw : w.alloc (.cells #[.slice A n c] 26) = w2) :
    ∃ y, RunX W w2 xb (y :: xr) g st ∧ SPts W xb (y :: xr) (some ⟨w.heap.size, 0, none⟩) [⟨A, c, l⟩] := by
  subst hw
  subst hn
  exact ⟨_, h.one hs c⟩
theorem step_appX {W w : World} {xb : Bl} {g : Nat} {st : Option (List UInt8)} {ops : Array Oper} {o : Oper} {a : Act} {K : Act → World → Prop} {Q : Exit → Act → World → Prop} {E : Prop} (hw : Region.wanted o (yielded ops a.tmps) = true) (s x : Operand) (t : TypeId)
    (ho : o.op = .call { callee := .builtin .append, args := #[s, x], argTypes := #[t, t] })
    {xr : List Ro} {e : TypeId} {size n bytes : Nat} {v : Value} {xs : List Value} (hm : RunX W w xb (⟨e, size, v, n, xs⟩ :: xr) g st) (hE : El Try.prog t e size bytes) (hs : a.eval s = v)
    (A : Option Addr) (m c : Nat) (news : List Value) (hx : a.eval x = .slice A m c) (hr : Src W xb xr size A m news) (h1 : ∀ u ∈ news, u.oneCell' = true)
    (h63 : n + m ≤ maxLen) (hbytes : (n + m) * bytes ≤ 140737488355328)
    (h : ∀ A' c' w' N X, N = n + m → X = xs ++ news → RunX W w' xb (⟨e, size, .slice A' N c', N, X⟩ :: xr) g st → K (a.put o.dst (.slice A' N c')) w') :
    if Region.wanted o (yielded ops a.tmps) = true then Oper.wp Try.prog o a w K Q else E := by
  have h0 := hm.src (hr.sub (fun _ h => h) (fun y hy => List.mem_cons_of_mem _ hy))
  obtain ⟨y, hr', h3, h4⟩ := hm
  exact step_appW hw s x t ho hr' h4 hE hs w.heap.size A m c news hx h0 h1 h63 hbytes fun A' c' w' hm' => h A' c' w' _ _ rfl rfl ⟨y, hr', h3, hm'⟩
theorem catP_pre (qs : List Pt) (k : Nat) : (catP qs).take (catP (qs.take k)).length = catP (qs.take k) := by
  have h : catP qs = catP (qs.take k) ++ catP (qs.drop k) := by rw [← catP_append, List.take_append_drop]
  rw [h, List.take_left]
end Go.Proofs.Ythnaobolmgcclaa
