/- Packets: Parse. -/
import Derived.Test.YtnbemfceoianiaaPkA
import Derived.Test.YtnbemfceoianiaaPk11
namespace Go.Proofs.Ytnbemfceoianiaa
set_option linter.unusedVariables false
set_option linter.unusedSimpArgs false
open Go.RowKit
section
variable {W w : World} {xb : Bl} {xr : List Ro} {bl : Bl} {ow : List Ro} {g : Nat} {st : RS} {r : Nat} {t : TypeId} {cs : Array Value}
theorem RrX.setRowP (h : RrX W ((r, t, cs) :: xb) xr bl ow g st w) (cs' : Array Value) : RrX W ((r, t, cs') :: xb) xr bl ow g st (w.setRow r cs') := by
  obtain ⟨A, c, h1, h2, h3⟩ := h
  exact ⟨A, c, Mst.setRow (bl := []) [_] h1 cs', h2, h3⟩
theorem RrX.putAtP (h : RrX W ((r, t, cs) :: xb) xr bl ow g st w) (o : Nat) (vs : List Value) : RrX W ((r, t, putAt cs o vs) :: xb) xr bl ow g st (w.setCells r o vs) := by
  obtain ⟨A, c, h1, h2, h3⟩ := h
  exact ⟨A, c, Mst.putAt vs [_] h1 o, h2, h3⟩
theorem RrX.newbP {w2 : World} (h : RrX W xb xr bl ow g st w) (hw : w.alloc (.cells cs t) = w2) : ∃ b, w.heap.size = b ∧ RrX W ((b, t, cs) :: xb) xr bl ow g st w2 := by
  subst hw
  exact ⟨_, rfl, h.newb t cs⟩
theorem RrX.drewP (h : RrX W xb xr bl ow g st w) : RrX W xb xr bl ow g st w.drew := h.below (Below.refl _ _).drew
theorem RrX.toWP {w2 w3 : World} (h : RrX W xb xr bl ow g st w) (e : w2 = w3) (hh : w = w2) : RrX W xb xr bl ow g st w3 := by
  subst e hh
  exact h
theorem RrX.mst (h : RrX W xb xr bl ow g st w) : ∃ v, Mst W w ((g, 104, #[v, .int .i64 st.2]) :: (xb ++ bl)) (xr ++ ow) := by
  obtain ⟨A, c, h1, _⟩ := h
  exact ⟨_, h1⟩
end
theorem pkc_set (p : Pk) (j : Nat) (v : Value) (hj : j < 9) : (pkc p).setIfInBounds j v = (pkh p).setIfInBounds j v ++ b8a p.T := by
  apply Array.ext_getElem?
  intro i
  by_cases hi : i < 9
  · rw [Array.getElem?_append_left (by simp [pkh]; omega)]
    by_cases hij : j = i
    · subst hij
      rw [Array.getElem?_setIfInBounds_self_of_lt (by simp [pkc, pkh]; omega), Array.getElem?_setIfInBounds_self_of_lt (by simp [pkh]; omega)]
    · rw [Array.getElem?_setIfInBounds_ne hij, Array.getElem?_setIfInBounds_ne hij, pkc_lt p hi]
  · rw [Array.getElem?_append_right (by simp [pkh]; omega), Array.getElem?_setIfInBounds_ne (by omega)]
    obtain ⟨q, rfl⟩ : ∃ q, i = 9 + q := ⟨i - 9, by omega⟩
    rw [pkc_get9]
    congr 1
    simp [pkh]
theorem pkc_set5 (p : Pk) (n : Int) : (pkc p).setIfInBounds 5 (.int .i64 n) = pkc { p with t := n } := by rw [pkc_set p 5 _ (by decide)]; rfl
theorem pkc_set8 (p : Pk) (A : Option Addr) (l : List UInt8) (n c : Nat) (h : l.length = n) : (pkc p).setIfInBounds 8 (.slice A n c) = pkc { p with A := A, l := l, cp := c } := by subst h; rw [pkc_set p 8 _ (by decide)]; rfl
theorem putAt_wn (p : Pk) (b c : Int) : putAt (pkc p) 6 [.int .i64 b, .int .i64 c] = pkc { p with b := b, c := c } := by
  have h1 : (pkc p).setIfInBounds 6 (.int .i64 b) = pkc { p with b := b } := by rw [pkc_set p 6 _ (by decide)]; rfl
  unfold putAt putAt putAt
  rw [h1, pkc_set _ 7 _ (by decide)]
  rfl
theorem putAt_cl (p : Pk) (i r x s : Int) : putAt (pkc p) 1 [.int .i64 i, .int .i64 r, .int .i64 x, .int .i64 s] = pkc { p with i := i, r := r, x := x, s := s } := by
  have h1 : (pkc p).setIfInBounds 1 (.int .i64 i) = pkc { p with i := i } := by rw [pkc_set p 1 _ (by decide)]; rfl
  have h2 : (pkc { p with i := i }).setIfInBounds 2 (.int .i64 r) = pkc { p with i := i, r := r } := by rw [pkc_set _ 2 _ (by decide)]; rfl
  have h3 : (pkc { p with i := i, r := r }).setIfInBounds 3 (.int .i64 x) = pkc { p with i := i, r := r, x := x } := by rw [pkc_set _ 3 _ (by decide)]; rfl
  unfold putAt putAt putAt putAt putAt
  rw [h1, h2, h3, pkc_set _ 4 _ (by decide)]
  rfl
theorem results_cell2P {P : Program} {fn : Func} {p t2 : Tmp} {ty : TypeId} (h : fn.results = #[.cell p ty, .tmp t2]) (tmps : Array Value) (w : World) (g : Nat) (t : TypeId) (cs : Array Value) (fr : Nat × Nat) (d : TypeDesc)
    (hp : tmps.getD p undef = .pointer (some ⟨g, 0, none⟩)) (hg : w.heap[g]? = some (.cells cs t fr))
    (hu : P.underlying ty = some d) (hd : (match d with | .struct _ | .array _ _ => true | _ => false) = true) (hi : (P.info? ty).map (·.size) = some cs.size) :
    (results fn tmps).run P w = .ok (.tuple #[.agg cs, tmps.getD t2 undef]) w := by
  have hp' : tmps[p]?.getD undef = .pointer (some ⟨g, 0, none⟩) := by simpa using hp
  simp [results, h, hp', asAddr, run_loadVar_row w g t ty cs fr d hg hu hd hi]
section
variable {P : Program} {w : World} {ops : Array Oper} {rest : List Oper} {o : Oper} {a : Act} {Q : Exit → Act → World → Prop} {K : Act → World → Prop} {E : Prop}
theorem step_copyP (hgd : o.guard = none) (d s : Operand) (dT sT : TypeId)
    (ho : o.op = .call { callee := .builtin .copy, args := #[d, s], argTypes := #[dT, sT] }) (elem : TypeId) (hu : P.underlying dT = some (.slice elem)) (hsz : (P.info? elem).map (·.size) = some 1)
    (b off dLen dCap : Nat) (ad : Addr) (sLen sCap : Nat) (hd : a.eval d = .slice (some ⟨b, off, none⟩) dLen dCap) (hs : a.eval s = .slice (some ad) sLen sCap) (cs : List Value) (hn : cs.length = Nat.min sLen dLen)
    (hsrc : ∀ (j : Nat) v, cs[j]? = some v → w.cell? (ad.add j) = some v) (ht : w.there b off cs.length) (h1 : ∀ v ∈ cs, v.oneCell' = true)
    (h : K (a.put o.dst (goInt cs.length)) (w.setCells b off cs)) : if Region.wanted o (yielded ops a.tmps) = true then Oper.wp P o a w K Q else E := by
  have hw : Region.wanted o (yielded ops a.tmps) = true := by simp [Region.wanted, hgd]
  rw [if_pos hw]
  have hrun := run_copy_cells (P := P) w dT sT o.type elem b off dLen dCap ad sLen sCap cs hu hsz hn hsrc (fun j hj => (ht j hj).1) (fun j hj => (ht j hj).2) h1
  unfold Oper.wp
  simp [execOp, ho, resolve, invoke, builtin, hd, hs, hrun, Result.andThen]
  exact h
theorem step_store_midP (hgd : o.guard = none) (ty : TypeId) (x y : Operand) (ho : o.op = .store ty x y)
    (b off : Nat) (cells : Array Value) (hx : a.eval x = .pointer (some ⟨b, off, none⟩)) (hy : a.eval y = .agg cells)
    (ht : w.there b off cells.size) (hi : (P.info? ty).map (·.size) = some cells.size) (h1 : cells.all (·.oneCell') = true)
    (h : K (a.put o.dst undef) (w.setCells b off cells.toList)) : if Region.wanted o (yielded ops a.tmps) = true then Oper.wp P o a w K Q else E := by
  have hw : Region.wanted o (yielded ops a.tmps) = true := by simp [Region.wanted, hgd]
  rw [if_pos hw]
  exact wp_store_mid ty x y ho b off cells hx hy ht hi h1 h
end
theorem info_wn2 (b c : Int) : (Try.prog.info? 31).map (·.size) = some (#[Value.int .i64 b, .int .i64 c] : Array Value).size := by kernel_rfl
theorem info_cl4 (a b c d : Int) : (Try.prog.info? 30).map (·.size) = some (#[Value.int .i64 a, .int .i64 b, .int .i64 c, .int .i64 d] : Array Value).size := by kernel_rfl
/-- The states behind the parts of a packet that is read. -/
def ps1 (l : List UInt8) : RS := nS (newR l) 0
def ps2 (l : List UInt8) : RS := rawS (ps1 l) 9
def ps3 (l : List UInt8) : RS := nS (ps2 l) 1
def ps4 (l : List UInt8) : RS := nS (ps3 l) 1
def ps5 (l : List UInt8) : RS := nS (ps4 l) 2
def ps6 (l : List UInt8) : RS := bS (ps5 l) 512
def ps7 (l : List UInt8) : RS := rawS (ps6 l) 32
def pcl (l : List UInt8) : C4 × Int := clParse (rawB (ps1 l) 9)
/-- The packet that is read. -/
def pkR (l : List UInt8) (A : Option Addr) (c : Nat) : Pk := ⟨nV (newR l) 0, (pcl l).1.1, (pcl l).1.2.1, (pcl l).1.2.2.1, (pcl l).1.2.2.2, nV (ps2 l) 1, nV (ps3 l) 1, nV (ps4 l) 2, A, bB (ps5 l) 512, c, rawB (ps6 l) 32⟩
theorem pkR_chk (l : List UInt8) (A : Option Addr) (c : Nat) : chkP (pkR l A c) = chkP (pkR l none 0) := rfl
theorem pkR_T (l : List UInt8) (A : Option Addr) (c : Nat) : (pkR l A c).T.length = 32 := rawB_length _ _
def pOk (l : List UInt8) : Prop := (ps7 l).2 = 0 ∧ (pcl l).2 = 0 ∧ (ps7 l).1.length = 0 ∧ chkP (pkR l none 0) = 0
def ParsePost (W : World) (l : List UInt8) (e : Ending) (w' : World) : Prop :=
  Below W.heap.size W w' ∧ ((pOk l ∧ ∃ A c, e = .returned (.tuple #[.agg (pkc (pkR l A c)), .int .i64 0]) ∧ RB w' w'.heap.size A (bB (ps5 l) 512)) ∨ (¬ pOk l ∧ ∃ e0, e0 ≠ 0 ∧ e = .returned (.tuple #[.agg (pkc Pk0), .int .i64 e0])))
set_option maxRecDepth 100000 in
set_option maxHeartbeats 16000000 in
theorem parse14_any (w0 : World) (A : Option Addr) (c L : Nat) (l : List UInt8) (hL : l.length = L) (hl : RB w0 w0.heap.size A l) (hn : L ≤ 1024) :
    Calls Try.prog 16 #[.slice A L c] w0 (ParsePost w0 l) := by
  have m0 := (Mst.start w0).new 33 Y41
  have M0 := Lib.hid m0
  have HNEW := Lib.hid (show ∀ w' bl ow, Mst w0 w' bl ow → Calls Try.prog 33 #[.slice A L c] w' (NewPost w0 [] [] bl ow w'.heap.size l) from fun w' bl ow h => by
    have q := rdnew_any w0 w' bl ow h A c l ((RB.below hl h.bel).more h.bel.size) (by omega)
    rw [hL] at q
    exact q)
  clear m0 hL hl hn
  go_enter Try.func16, Try.ntmps16
  go_wp2_with fail
  generalize hw1 : World.alloc _ _ = w1
  have Mq := Lib.hid (M0.out.toVP hw1 rfl)
  clear hw1 M0
  with_reducible refine (HNEW.out _ _ _ Mq.out).mono ?_
  rintro r w2 ⟨g, Aq, cq, rfl, -, hR⟩
  obtain ⟨ow, how⟩ : ∃ ow, ([⟨5, 1, .slice Aq l.length cq, l.length, by8 l⟩] : List Ro) = ow := ⟨_, rfl⟩
  rw [how] at hR
  have HR := Lib.hid hR
  clear hR how Mq HNEW
  go_wp2_with fail
  generalize hw3 : World.alloc _ _ = w3
  obtain ⟨br, hbr, hR⟩ := HR.out.newbP hw3
  simp only [hbr]
  have HC := Lib.hid (rdnum_any w0 w3 _ _ _ _ g _ hR 0)
  clear hw3 hbr hR HR
  with_reducible refine (HC.out).mono ?_
  rintro r w4 ⟨rfl, hR⟩
  have HR := Lib.hid hR
  obtain ⟨k, hk⟩ : ∃ k, nV (newR l) 0 = k := ⟨_, rfl⟩
  have HK := Lib.hid hk
  rw [hk]
  have HS1 := Lib.hid (show nS (newR l) 0 = ps1 l from rfl)
  rw [HS1.out] at HR
  clear hR hk HC HS1
  obtain ⟨P1, hP1⟩ : ∃ P1, ({ Pk0 with k := k } : Pk) = P1 := ⟨_, rfl⟩
  have HP1 := Lib.hid hP1
  have HT1 := Lib.hid (show P1.T.length = 32 from by rw [← hP1]; rfl)
  have HB1 := Lib.hid (show ∀ w, (Instr.build 33 #[(0, .int .i64 k)]).run Try.prog w = .ok (.agg (pkc P1)) w from fun w => by rw [← hP1]; exact build_pk1 k w)
  clear hP1
  go_upto_region 3 with (first | refine wpList_buildP rfl _ _ rfl [(0, .int .i64 k)] rfl (.agg (pkc P1)) (HB1.out _) ?_ | refine wpList_store_row rfl _ _ _ rfl w4.heap.size (pkc P1) rfl rfl 33 _ (Bk.mk_ _ _ _) (info_pk HT1.out) (y41_k HT1.out) (pkc_one _) ?_)
  generalize hw5 : World.setRow _ _ _ = w5
  obtain ⟨bp, hbp⟩ : ∃ b, w4.heap.size = b := ⟨_, rfl⟩
  have hR5 := ((HR.out.newb 33 Y41).setRowP (pkc P1)).toWP hw5 rfl
  rw [hbp] at hR5
  simp only [hbp]
  have HR := Lib.hid hR5
  clear hw5 hbp hR5
  have HBR := Lib.hid (show ∀ w' x xr' st', RrX w0 (x :: [(br, 78, #[.pointer (some ⟨g, 0, none⟩)])]) xr' [(w0.heap.size, 33, Y41)] ow g st' w' → w'.cell? ⟨br, 0, none⟩ = some (.pointer (some ⟨g, 0, none⟩)) from fun w' x xr' st' h => (h.blk (x := (br, 78, #[.pointer (some ⟨g, 0, none⟩)])) (by simp)).cell 0)
  have HRW := Lib.hid (show ∀ w' xb xr bl ow st, RrX w0 xb xr bl ow g st w' → Calls Try.prog 35 #[.agg #[.pointer (some ⟨g, 0, none⟩)], .int .i64 9] w' fun e w' => ∃ A c, e = .returned (.slice A 9 c) ∧ RrX w0 xb (⟨5, 1, .slice A 9 c, 9, by8 (rawB st 9)⟩ :: xr) bl ow g (rawS st 9) w' from fun w' xb xr bl ow st h => raw_any w0 w' xb xr bl ow g st h 9 (by decide))
  have HRV := Lib.hid (show ∀ w' xb xr bl ow st, RrX w0 xb xr bl ow g st w' → Calls Try.prog 35 #[.agg #[.pointer (some ⟨g, 0, none⟩)], .int .i64 32] w' fun e w' => ∃ A c, e = .returned (.slice A 32 c) ∧ RrX w0 xb (⟨5, 1, .slice A 32 c, 32, by8 (rawB st 32)⟩ :: xr) bl ow g (rawS st 32) w' from fun w' xb xr bl ow st h => raw_any w0 w' xb xr bl ow g st h 32 (by decide))
  have HNU := Lib.hid (fun w' xb xr bl ow st s (h : RrX w0 xb xr bl ow g st w') => rdnum_any w0 w' xb xr bl ow g st h s)
  have d0 := HBR.out _ _ _ _ HR.out
  go_wp2_with fail
  have hq := HRW.out _ _ _ _ _ _ HR.out
  have HQ := Lib.hid hq
  clear hq HR
  with_reducible refine (HQ.out).mono ?_
  rintro r w6 ⟨A3, c3, rfl, hR⟩
  have HR := Lib.hid (show RrX w0 _ _ _ ow g (ps2 l) w6 from hR)
  have HC9 := Lib.hid (show (rawB (ps1 l) 9).length = 9 from rawB_length _ _)
  clear hR HQ d0
  have d0 := HBR.out _ _ _ _ HR.out
  go_wp2_with fail
  have HQ := Lib.hid (HNU.out _ _ _ _ _ _ 1 HR.out)
  clear HR
  with_reducible refine (HQ.out).mono ?_
  rintro r w7 ⟨rfl, hR⟩
  have HR := Lib.hid (show RrX w0 ((bp, 33, pkc P1) :: _) _ _ ow g (ps3 l) w7 from hR)
  obtain ⟨t, ht⟩ : ∃ t, nV (ps2 l) 1 = t := ⟨_, rfl⟩
  have HTT := Lib.hid ht
  rw [ht]
  have hbk := hR.blk (x := (bp, 33, pkc P1)) (by simp)
  have f5 := hbk.fr 5
  obtain ⟨p0, p1, p2, p3, p4, p5, p6, p7, p8⟩ := pkc_cells hbk
  clear hR HQ d0 ht hbk p0 p1 p2 p3 p4 p6 p7 p8
  go_upto_region 5 with fail
  generalize hw8 : World.setCell _ _ _ = w8
  obtain ⟨P2, hP2⟩ : ∃ P : Pk, { P1 with t := t } = P := ⟨_, rfl⟩
  have hR8 := (HR.out.put 5 (.int .i64 t)).toWP hw8 rfl
  rw [pkc_set5, hP2] at hR8
  have HP2 := Lib.hid hP2
  have HT2 := Lib.hid (show P2.T.length = 32 from by rw [← hP2]; exact HT1.out)
  have Mq := Lib.hid hR8
  clear hw8 hR8 f5 p5 hP2 HR
  have K0 := Lib.hid (HBR.out _ _ _ _ Mq.out.drewP)
  refine wp_region_held_drew (S := fun w' => w'.cell? ⟨br, 0, none⟩ = some (.pointer (some ⟨g, 0, none⟩))) (by kernel_rfl) ?_ (fun hHeld => ?_)
  · exact K0.out
  generalize hw9 : World.drew _ = w9 at hHeld ⊢
  have Mq := Lib.hid (Mq.out.drewP.toWP hw9 rfl)
  clear hw9
  refine wpAnyH_take (i := 0) (v := ?_) rfl (by kernel_rfl) (by kernel_rfl) (by kernel_rfl) (fun _ _ _ h => h) (Or.inl ⟨by rfl, ?_⟩) (by assumption) ?_
  rotate_left
  · intro w hSw; (try dsimp only at hSw); go_split_ands; go_simp; with_reducible rfl
  change wpAnyH _ _ _ _ _ _ _ (Act.put _ (some 22) _) _
  simp only [Act.put, List.setIfInBounds_toArray, List.set_cons_zero, List.set_cons_succ, Array.toArray_toList]
  refine wpAnyH_take (i := 1) (v := ?_) rfl (by kernel_rfl) (by kernel_rfl) (by kernel_rfl) (fun _ _ _ h => h) (Or.inl ⟨by rfl, ?_⟩) (by assumption) ?_
  rotate_left
  · intro w hSw; (try dsimp only at hSw); go_split_ands; go_simp; with_reducible rfl
  change wpAnyH _ _ _ _ _ _ _ (Act.put _ (some 23) _) _
  simp only [Act.put, List.setIfInBounds_toArray, List.set_cons_zero, List.set_cons_succ, Array.toArray_toList]
  refine wpAnyH_take (i := 3) (v := ?_) rfl (by kernel_rfl) (by kernel_rfl) (by kernel_rfl) (fun _ _ _ h => h) (Or.inl ⟨by rfl, ?_⟩) (by assumption) ?_
  rotate_left
  · intro w hSw; (try dsimp only at hSw); go_split_ands; go_simp; with_reducible rfl
  change wpAnyH _ _ _ _ _ _ _ (Act.put _ (some 25) _) _
  simp only [Act.put, List.setIfInBounds_toArray, List.set_cons_zero, List.set_cons_succ, Array.toArray_toList]
  refine wpAnyH_take (i := 4) (v := ?_) rfl (by kernel_rfl) (by kernel_rfl) (by kernel_rfl) (fun _ _ _ h => h) (Or.inl ⟨by rfl, ?_⟩) (by assumption) ?_
  rotate_left
  · intro w hSw; (try dsimp only at hSw); go_split_ands; go_simp; with_reducible rfl
  change wpAnyH _ _ _ _ _ _ _ (Act.put _ (some 26) _) _
  simp only [Act.put, List.setIfInBounds_toArray, List.set_cons_zero, List.set_cons_succ, Array.toArray_toList]
  refine wpAnyH_ready (rs := [2]) (by kernel_rfl) (by simp) ?_
  refine (AllReadyH.cons rfl (fun K hK => ?_) AllReadyH.nil)
  go_simp
  (with_reducible refine (HNU.out _ _ _ _ _ _ 1 Mq.out).mono ?_); rintro r wq ⟨rfl, hR⟩; have Mq := Lib.hid (show RrX w0 _ _ _ ow g (ps4 l) wq from hR); clear hR
  go_wp2_with fail
  refine hK.out _ _ (by exact HBR.out _ _ _ _ Mq.out) (fun hHeld => ?_)
  clear hK K
  refine wpAnyH_ready (rs := [5]) (by kernel_rfl) (by simp) ?_
  refine (AllReadyH.cons rfl (fun K hK => ?_) AllReadyH.nil)
  go_simp
  (with_reducible refine (HNU.out _ _ _ _ _ _ 2 Mq.out).mono ?_); rintro r wq ⟨rfl, hR⟩; have Mq := Lib.hid (show RrX w0 ((bp, 33, pkc P2) :: _) _ _ ow g (ps5 l) wq from hR); clear hR
  go_wp2_with fail
  refine hK.out _ _ (by exact HBR.out _ _ _ _ Mq.out) (fun hHeld => ?_)
  clear hK K
  refine wpAnyH_take (i := 6) (v := ?_) rfl (by kernel_rfl) (by kernel_rfl) (by kernel_rfl) (fun _ _ _ h => h) (Or.inl ⟨by rfl, ?_⟩) (by assumption) ?_
  rotate_left
  · intro w hSw; (try dsimp only at hSw); go_split_ands; go_simp; with_reducible rfl
  change wpAnyH _ _ _ _ _ _ _ (Act.put _ (some 28) _) _
  simp only [Act.put, List.setIfInBounds_toArray, List.set_cons_zero, List.set_cons_succ, Array.toArray_toList]
  refine wpAnyH_take (i := 7) (v := ?_) rfl (by kernel_rfl) (by kernel_rfl) (by kernel_rfl) (fun _ _ _ h => h) (Or.inl ⟨by rfl, ?_⟩) (by assumption) ?_
  rotate_left
  · intro w hSw; (try dsimp only at hSw); go_split_ands; go_simp; with_reducible rfl
  change wpAnyH _ _ _ _ _ _ _ (Act.put _ (some 29) _) _
  simp only [Act.put, List.setIfInBounds_toArray, List.set_cons_zero, List.set_cons_succ, Array.toArray_toList]
  refine wpAnyH_ready (rs := [8]) (by kernel_rfl) (by simp) ?_
  refine (AllReadyH.cons rfl (fun K hK => ?_) AllReadyH.nil)
  refine step_store_midP rfl _ _ _ rfl bp 6 #[.int .i64 (nV (ps3 l) 1), .int .i64 (nV (ps4 l) 2)] rfl rfl (Bk.thereP (Mq.out.blk (x := (bp, 33, pkc P2)) (by simp)) 6 2 (by rw [pkc_size HT2.out]; decide)) (info_wn2 _ _) (by simp [Value.oneCell']) ?_; have Mq := Lib.hid (Mq.out.putAtP 6 [.int .i64 (nV (ps3 l) 1), .int .i64 (nV (ps4 l) 2)])
  refine hK.out _ _ (by exact HBR.out _ _ _ _ Mq.out) (fun hHeld => ?_)
  clear hK K
  refine wpAnyH_done (by kernel_rfl) ?_ _
  clear hHeld K0
  obtain ⟨P3, hP3⟩ : ∃ P : Pk, { P2 with b := nV (ps3 l) 1, c := nV (ps4 l) 2 } = P := ⟨_, rfl⟩
  have hR9 := Mq.out
  rw [putAt_wn, hP3] at hR9
  have HP3 := Lib.hid hP3
  have HT3 := Lib.hid (show P3.T.length = 32 from by rw [← hP3]; exact HT2.out)
  have HR := Lib.hid hR9
  clear hR9 hP3 Mq
  have d0 := HBR.out _ _ _ _ HR.out
  go_wp2_with fail
  have HQ := Lib.hid (rdbytes_any w0 _ _ _ _ ow g (ps5 l) HR.out 512)
  clear HR
  with_reducible refine (HQ.out).mono ?_
  rintro r w10 ⟨A6, c6, rfl, hR⟩
  have HR := Lib.hid (show RrX w0 ((bp, 33, pkc P3) :: _) _ _ ow g (ps6 l) w10 from hR)
  obtain ⟨B, hB⟩ : ∃ B, bB (ps5 l) 512 = B := ⟨_, rfl⟩
  have HBB := Lib.hid hB
  rw [hB] at HR ⊢
  obtain ⟨n, hn⟩ : ∃ n, B.length = n := ⟨_, rfl⟩
  have HNN := Lib.hid hn
  rw [hn] at HR ⊢
  have hbk := hR.blk (x := (bp, 33, pkc P3)) (by simp)
  have f8 := hbk.fr 8
  obtain ⟨p0, p1, p2, p3, p4, p5, p6, p7, p8⟩ := pkc_cells hbk
  clear hR HQ d0 hB hn hbk p0 p1 p2 p3 p4 p5 p6 p7
  go_upto_region 7 with fail
  generalize hw11 : World.setCell _ _ _ = w11
  obtain ⟨P4, hP4⟩ : ∃ P : Pk, { P3 with A := A6, l := B, cp := c6 } = P := ⟨_, rfl⟩
  have hR11 := (HR.out.put 8 (.slice A6 n c6)).toWP hw11 rfl
  rw [pkc_set8 _ _ _ _ _ HNN.out, hP4] at hR11
  have HP4 := Lib.hid hP4
  have HT4 := Lib.hid (show P4.T.length = 32 from by rw [← hP4]; exact HT3.out)
  have Mq := Lib.hid hR11
  clear hw11 hR11 f8 p8 hP4 HR
  have K0 := Lib.hid (HBR.out _ _ _ _ Mq.out.drewP)
  refine wp_region_held_drew (S := fun w' => w'.cell? ⟨br, 0, none⟩ = some (.pointer (some ⟨g, 0, none⟩))) (by kernel_rfl) ?_ (fun hHeld => ?_)
  · exact K0.out
  generalize hw12 : World.drew _ = w12 at hHeld ⊢
  have Mq := Lib.hid (Mq.out.drewP.toWP hw12 rfl)
  clear hw12
  refine wpAnyH_take (i := 0) (v := ?_) rfl (by kernel_rfl) (by kernel_rfl) (by kernel_rfl) (fun _ _ _ h => h) (Or.inl ⟨by rfl, ?_⟩) (by assumption) ?_
  rotate_left
  · intro w hSw; (try dsimp only at hSw); go_split_ands; go_simp; with_reducible rfl
  change wpAnyH _ _ _ _ _ _ _ (Act.put _ (some 34) _) _
  simp only [Act.put, List.setIfInBounds_toArray, List.set_cons_zero, List.set_cons_succ, Array.toArray_toList]
  refine wpAnyH_take (i := 1) (v := ?_) rfl (by kernel_rfl) (by kernel_rfl) (by kernel_rfl) (fun _ _ _ h => h) (Or.inl ⟨by rfl, ?_⟩) (by assumption) ?_
  rotate_left
  · intro w hSw; (try dsimp only at hSw); go_split_ands; go_simp; with_reducible rfl
  change wpAnyH _ _ _ _ _ _ _ (Act.put _ (some 35) _) _
  simp only [Act.put, List.setIfInBounds_toArray, List.set_cons_zero, List.set_cons_succ, Array.toArray_toList]
  refine wpAnyH_take (i := 2) (v := ?_) rfl (by kernel_rfl) (by kernel_rfl) (by kernel_rfl) (fun _ _ _ h => h) (Or.inl ⟨by rfl, ?_⟩) (by assumption) ?_
  rotate_left
  · intro w hSw; (try dsimp only at hSw); go_split_ands; go_simp; with_reducible rfl
  change wpAnyH _ _ _ _ _ _ _ (Act.put _ (some 36) _) _
  simp only [Act.put, List.setIfInBounds_toArray, List.set_cons_zero, List.set_cons_succ, Array.toArray_toList]
  refine wpAnyH_ready (rs := [3]) (by kernel_rfl) (by simp) ?_
  refine (AllReadyH.cons rfl (fun K hK => ?_) AllReadyH.nil)
  go_simp
  (with_reducible refine (HRV.out _ _ _ _ _ _ Mq.out).mono ?_); rintro r wq ⟨A7, c7, rfl, hR⟩; have Mq := Lib.hid (show RrX w0 ((bp, 33, pkc P4) :: _) _ _ ow g (ps7 l) wq from hR); have HR7 := Lib.hid (show ∃ b7 o7, A7 = some ⟨b7, o7, none⟩ ∧ ∀ (j : Nat) u, (by8 (rawB (ps6 l) 32))[j]? = some u → wq.cell? ⟨b7, o7 + j, none⟩ = some u from by (obtain ⟨vv, hm⟩ := hR.mst; obtain ⟨b7, o7, e, _, hcc⟩ := (hm.src (hm.rowSrc (List.mem_cons_self ..))).2 (by decide); exact ⟨b7, o7, e, hcc⟩)); obtain ⟨b7, o7, rfl, hc7⟩ := HR7.out; have HC7 := Lib.hid hc7; clear hR hc7 HR7
  go_wp2_with fail
  refine hK.out _ _ (by exact HBR.out _ _ _ _ Mq.out) (fun hHeld => ?_)
  clear hK K
  refine wpAnyH_ready (rs := [4]) (by kernel_rfl) (by simp) ?_
  refine (AllReadyH.cons rfl (fun K hK => ?_) AllReadyH.nil)
  refine step_copyP rfl _ _ _ _ rfl 5 Try.underlying26 (by kernel_rfl) bp 9 32 32 ⟨b7, o7, none⟩ 32 c7 rfl rfl (by8 (rawB (ps6 l) 32)) (by rw [by8_length, rawB_length]; rfl) (fun j v hv => by rw [WideShapes.add_plain]; exact HC7.out j v hv) (Bk.thereP (Mq.out.blk (x := (bp, 33, pkc P4)) (by simp)) 9 _ (by rw [pkc_size HT4.out, by8_length, rawB_length]; decide)) (by8_one _) ?_; have Mq := Lib.hid (Mq.out.putAtP 9 (by8 (rawB (ps6 l) 32)))
  refine hK.out _ _ (by exact HBR.out _ _ _ _ Mq.out) (fun hHeld => ?_)
  clear hK K
  (try (change wpAnyH _ _ _ _ _ _ _ (Act.put _ (some 38) _) _; simp only [Act.put, List.setIfInBounds_toArray, List.set_cons_zero, List.set_cons_succ, Array.toArray_toList]))
  refine wpAnyH_done (by kernel_rfl) ?_ _
  clear hHeld K0
  obtain ⟨P5, hP5⟩ : ∃ P : Pk, { P4 with T := rawB (ps6 l) 32 } = P := ⟨_, rfl⟩
  have hR9 := Mq.out
  rw [putAt_tag _ _ HT4.out (rawB_length _ _), hP5] at hR9
  have HP5 := Lib.hid hP5
  have HT5 := Lib.hid (show P5.T.length = 32 from by rw [← hP5]; exact rawB_length _ _)
  have HR := Lib.hid hR9
  clear hR9 hP5 Mq
  have d0 := HBR.out _ _ _ _ HR.out
  go_wp2_with fail
  generalize hw12 : World.setCells _ _ _ _ = w12
  have HR := Lib.hid (HR.out.toWP hw12 rfl)
  have HZ0 := Lib.hid (show Pk0.T.length = 32 from rfl)
  have HQ := Lib.hid (err_any w0 w12 _ _ _ ow g (ps7 l) HR.out)
  obtain ⟨vr, hm⟩ := HR.out.mst
  have MM := Lib.hid (show Mst w0 w12 ([_, _, _] ++ (w0.heap.size, 33, Y41) :: []) _ from hm)
  clear hw12 d0 hm
  with_reducible refine (HQ.out).mono ?_
  rintro r wq ⟨rfl, rfl⟩
  by_cases hE : (ps7 l).2 = 0
  case neg =>
    have hNO := Lib.hid (show ¬ pOk l from fun h => hE h.1)
    have HE := Lib.hid hE
    obtain ⟨E, hEE⟩ : ∃ E, (ps7 l).2 = E := ⟨_, rfl⟩
    rw [hEE] at hE HE ⊢
    have e1 : (E == 0) = false := by simpa using hE
    have e2 : (E != 0) = true := by simpa using hE
    clear hE hEE
    go_wp2_with (first | refine wpList_buildG (by first | rfl | kernel_rfl) _ rfl (.agg (pkc Pk0)) (build_pk0 _) ?_ | refine wpList_store_row rfl _ _ _ rfl w0.heap.size (pkc Pk0) rfl rfl 33 _ (MM.out.blk [_, _, _]) (info_pk HZ0.out) (y41_k HZ0.out) (pkc_one _) ?_)
    exact bodyPost_ret (results_cell2P rfl _ _ w0.heap.size 33 _ (0, 0) _ rfl (setRow_heap _ _ _ _ _ _ (MM.out.blk [_, _, _])) Try.underlying33 rfl (info_pk HZ0.out)) rfl ⟨(Mst.setRow (bl := []) [_, _, _] MM.out (pkc Pk0)).bel, .inr ⟨hNO.out, _, HE.out, rfl⟩⟩
  rw [hE]
  have HE := Lib.hid hE
  clear hE
  obtain ⟨cc, hcc⟩ : ∃ cc, pcl l = cc := ⟨_, rfl⟩
  obtain ⟨⟨ci, cr, cx, cs⟩, ec⟩ := cc
  have HCC := Lib.hid hcc
  have HQ := Lib.hid (show Calls Try.prog 38 #[.slice A3 9 c3] w12 fun e w' => e = .returned (.tuple #[.agg #[.int .i64 ci, .int .i64 cr, .int .i64 cx, .int .i64 cs], .int .i64 ec]) ∧ Below w12.heap.size w12 w' from by
    have hr : RB w12 w12.heap.size A3 (rawB (ps1 l) 9) := by
      unfold RB
      rw [HC9.out]
      exact MM.out.src (MM.out.rowSrc (e := 5) (c := c3) (by simp))
    have h := clparse_any w12 A3 c3 (rawB (ps1 l) 9) hr (by rw [HC9.out]; decide)
    rw [show clParse (rawB (ps1 l) 9) = ((ci, cr, cx, cs), ec) from hcc, HC9.out] at h
    exact h)
  clear hcc
  go_wp2_with fail
  with_reducible refine (HQ.out).mono ?_
  rintro r w13 ⟨rfl, hb⟩
  have HR := Lib.hid (HR.out.below hb)
  clear hb HQ MM
  go_upto_region 13 with (first | refine wpList_store_mid rfl _ _ _ rfl bp 1 #[.int .i64 ci, .int .i64 cr, .int .i64 cx, .int .i64 cs] rfl rfl (Bk.thereP (HR.out.blk (x := (bp, 33, pkc P5)) (by simp)) 1 4 (by rw [pkc_size HT5.out]; decide)) (info_cl4 _ _ _ _) (by simp [Value.oneCell']) ?_)
  generalize hw14 : World.setCells _ _ _ _ = w14
  obtain ⟨P6, hP6⟩ : ∃ P : Pk, { P5 with i := ci, r := cr, x := cx, s := cs } = P := ⟨_, rfl⟩
  have hR9 := (HR.out.putAtP 1 [.int .i64 ci, .int .i64 cr, .int .i64 cx, .int .i64 cs]).toWP hw14 rfl
  rw [putAt_cl, hP6] at hR9
  have HT6 := Lib.hid (show P6.T.length = 32 from by rw [← hP6]; exact HT5.out)
  have hpk : P6 = pkR l A6 c6 := by
    rw [← hP6, ← HP5.out, ← HP4.out, ← HP3.out, ← HP2.out, ← HP1.out, ← HK.out, ← HTT.out, ← HBB.out]
    unfold pkR
    rw [HCC.out]
  have HPK := Lib.hid hpk
  have HCH := Lib.hid (show chkP P6 = chkP (pkR l none 0) from by rw [hpk]; exact pkR_chk l A6 c6)
  have HEC := Lib.hid (show (pcl l).2 = ec from by rw [HCC.out])
  have HR := Lib.hid hR9
  obtain ⟨vr, hm⟩ := hR9.mst
  have MM := Lib.hid (show Mst w0 w14 ([_, _, _] ++ (w0.heap.size, 33, Y41) :: []) _ from hm)
  have HKD := Lib.hid (kind_any P6.k)
  have HLF := Lib.hid (left_any w0 w14 _ _ _ ow g (ps7 l) HR.out)
  have d0 := HBR.out _ _ _ _ HR.out
  obtain ⟨p0, p1, p2, p3, p4, p5, p6, p7, p8⟩ := pkc_cells (HR.out.blk (x := (bp, 33, pkc P6)) (by simp))
  clear hw14 hR9 hP6 hpk hm p1 p2 p3 p4 p5 p6 p7 p8
  by_cases hk : 0 < P6.k ∧ P6.k < 15
  case neg =>
    have hNO := Lib.hid (show ¬ pOk l from fun h => by
      have h4 := h.2.2.2
      rw [← HCH.out] at h4
      have := (chkP_ok h4).1
      omega)
    rw [decide_eq_false hk] at HKD
    clear hk
    by_cases he : ec = 0
    · subst he
      go_wp2_with (first | (go_at_call 39; refine (HKD.out _).mono ?_; rintro e wk ⟨rfl, rfl⟩) | refine wpList_buildG (by first | rfl | kernel_rfl) _ rfl (.agg (pkc Pk0)) (build_pk0 _) ?_ | refine wpList_store_row rfl _ _ _ rfl w0.heap.size (pkc Pk0) rfl rfl 33 _ (MM.out.blk [_, _, _]) (info_pk HZ0.out) (y41_k HZ0.out) (pkc_one _) ?_)
      exact bodyPost_ret (results_cell2P rfl _ _ w0.heap.size 33 _ (0, 0) _ rfl (setRow_heap _ _ _ _ _ _ (MM.out.blk [_, _, _])) Try.underlying33 rfl (info_pk HZ0.out)) rfl ⟨(Mst.setRow (bl := []) [_, _, _] MM.out (pkc Pk0)).bel, .inr ⟨hNO.out, _, by decide, rfl⟩⟩
    · have e1 : (ec == 0) = false := by simpa using he
      have e2 : (ec != 0) = true := by simpa using he
      clear he
      go_wp2_with (first | (go_at_call 39; refine (HKD.out _).mono ?_; rintro e wk ⟨rfl, rfl⟩) | refine wpList_buildG (by first | rfl | kernel_rfl) _ rfl (.agg (pkc Pk0)) (build_pk0 _) ?_ | refine wpList_store_row rfl _ _ _ rfl w0.heap.size (pkc Pk0) rfl rfl 33 _ (MM.out.blk [_, _, _]) (info_pk HZ0.out) (y41_k HZ0.out) (pkc_one _) ?_)
      exact bodyPost_ret (results_cell2P rfl _ _ w0.heap.size 33 _ (0, 0) _ rfl (setRow_heap _ _ _ _ _ _ (MM.out.blk [_, _, _])) Try.underlying33 rfl (info_pk HZ0.out)) rfl ⟨(Mst.setRow (bl := []) [_, _, _] MM.out (pkc Pk0)).bel, .inr ⟨hNO.out, _, by decide, rfl⟩⟩
  rw [decide_eq_true hk] at HKD
  clear hk
  by_cases he : ec = 0
  case neg =>
    have hNO := Lib.hid (show ¬ pOk l from fun h => by
      have h4 := h.2.1
      rw [HEC.out] at h4
      exact he h4)
    have e1 : (ec == 0) = false := by simpa using he
    have e2 : (ec != 0) = true := by simpa using he
    clear he
    go_wp2_with (first | (go_at_call 39; refine (HKD.out _).mono ?_; rintro e wk ⟨rfl, rfl⟩) | refine wpList_buildG (by first | rfl | kernel_rfl) _ rfl (.agg (pkc Pk0)) (build_pk0 _) ?_ | refine wpList_store_row rfl _ _ _ rfl w0.heap.size (pkc Pk0) rfl rfl 33 _ (MM.out.blk [_, _, _]) (info_pk HZ0.out) (y41_k HZ0.out) (pkc_one _) ?_)
    exact bodyPost_ret (results_cell2P rfl _ _ w0.heap.size 33 _ (0, 0) _ rfl (setRow_heap _ _ _ _ _ _ (MM.out.blk [_, _, _])) Try.underlying33 rfl (info_pk HZ0.out)) rfl ⟨(Mst.setRow (bl := []) [_, _, _] MM.out (pkc Pk0)).bel, .inr ⟨hNO.out, _, by decide, rfl⟩⟩
  subst he
  by_cases hle : (ps7 l).1.length = 0
  case neg =>
    have hNO := Lib.hid (show ¬ pOk l from fun h => hle h.2.2.1)
    obtain ⟨F, hF⟩ : ∃ F : Int, ((ps7 l).1.length : Int) = F := ⟨_, rfl⟩
    rw [hF] at HLF
    have e1 : (0 : Int) < F := by omega
    clear hle hF
    go_wp2_with (first | (go_at_call 39; refine (HKD.out _).mono ?_; rintro e wk ⟨rfl, rfl⟩) | fail)
    with_reducible refine (HLF.out).mono ?_
    rintro r wq ⟨rfl, rfl⟩
    go_wp2_with (first | refine wpList_buildG (by first | rfl | kernel_rfl) _ rfl (.agg (pkc Pk0)) (build_pk0 _) ?_ | refine wpList_store_row rfl _ _ _ rfl w0.heap.size (pkc Pk0) rfl rfl 33 _ (MM.out.blk [_, _, _]) (info_pk HZ0.out) (y41_k HZ0.out) (pkc_one _) ?_)
    exact bodyPost_ret (results_cell2P rfl _ _ w0.heap.size 33 _ (0, 0) _ rfl (setRow_heap _ _ _ _ _ _ (MM.out.blk [_, _, _])) Try.underlying33 rfl (info_pk HZ0.out)) rfl ⟨(Mst.setRow (bl := []) [_, _, _] MM.out (pkc Pk0)).bel, .inr ⟨hNO.out, _, by decide, rfl⟩⟩
  have HLE := Lib.hid hle
  rw [show ((ps7 l).1.length : Int) = 0 by rw [hle]; rfl] at HLF
  clear hle
  have HCP := Lib.hid (fun w' => pcheck_any P6 HT6.out w')
  go_wp2_with (first | (go_at_call 39; refine (HKD.out _).mono ?_; rintro e wk ⟨rfl, rfl⟩) | fail)
  with_reducible refine (HLF.out).mono ?_
  rintro r wq ⟨rfl, rfl⟩
  go_wp2_with (first | refine wpList_loadG (by first | rfl | kernel_rfl) _ _ rfl bp 0 rfl (pkc P6) _ (pkc_whole (HR.out.blk (x := (bp, 33, pkc P6)) (by simp))) Try.underlying33 rfl (info_pk HT6.out) ?_)
  with_reducible refine (HCP.out _).mono ?_
  rintro r w15 ⟨rfl, hb⟩
  have MM := Lib.hid (MM.out.below hb)
  have HR := Lib.hid (HR.out.below hb)
  clear hb d0 p0
  by_cases hch : chkP P6 = 0
  case neg =>
    have hNO := Lib.hid (show ¬ pOk l from fun h => by
      have h4 := h.2.2.2
      rw [← HCH.out] at h4
      exact hch h4)
    obtain ⟨F, hF⟩ : ∃ F, chkP P6 = F := ⟨_, rfl⟩
    rw [hF] at hch ⊢
    have e1 : (F == 0) = false := by simpa using hch
    have e2 : (F != 0) = true := by simpa using hch
    clear hch hF
    go_wp2_with (first | refine wpList_buildG (by first | rfl | kernel_rfl) _ rfl (.agg (pkc Pk0)) (build_pk0 _) ?_ | refine wpList_store_row rfl _ _ _ rfl w0.heap.size (pkc Pk0) rfl rfl 33 _ (MM.out.blk [_, _, _]) (info_pk HZ0.out) (y41_k HZ0.out) (pkc_one _) ?_)
    exact bodyPost_ret (results_cell2P rfl _ _ w0.heap.size 33 _ (0, 0) _ rfl (setRow_heap _ _ _ _ _ _ (MM.out.blk [_, _, _])) Try.underlying33 rfl (info_pk HZ0.out)) rfl ⟨(Mst.setRow (bl := []) [_, _, _] MM.out (pkc Pk0)).bel, .inr ⟨hNO.out, _, by decide, rfl⟩⟩
  rw [hch]
  have HOK := Lib.hid (show pOk l from ⟨HE.out, HEC.out, HLE.out, by rw [← HCH.out]; exact hch⟩)
  clear hch
  go_wp2_with (first | refine wpList_loadG (by first | rfl | kernel_rfl) _ _ rfl bp 0 rfl (pkc P6) _ (pkc_whole (HR.out.blk (x := (bp, 33, pkc P6)) (by simp))) Try.underlying33 rfl (info_pk HT6.out) ?_ | refine wpList_store_row rfl _ _ _ rfl w0.heap.size (pkc P6) rfl rfl 33 _ (MM.out.blk [_, _, _]) (info_pk HT6.out) (y41_k HT6.out) (pkc_one _) ?_)
  have MF := Lib.hid (Mst.setRow (bl := []) [_, _, _] MM.out (pkc P6))
  refine bodyPost_ret (results_cell2P rfl _ _ w0.heap.size 33 _ (0, 0) _ rfl (setRow_heap _ _ _ _ _ _ (MM.out.blk [_, _, _])) Try.underlying33 rfl (info_pk HT6.out)) rfl ⟨MF.out.bel, .inl ⟨HOK.out, A6, c6, by rw [HPK.out]; rfl, ?_⟩⟩
  unfold RB
  rw [HBB.out, HNN.out]
  exact MF.out.src (MF.out.rowSrc (e := 5) (c := c6) (by simp))
end Go.Proofs.Ytnbemfceoianiaa
