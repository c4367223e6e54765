/- Package token: contracts of the mint: Issue. -/
import Derived.Test.YtghcdffpplimoaaTk4
import Derived.Deep.RegionHeld3
namespace Go.Proofs.Ytghcdffpplimoaa
set_option linter.unusedVariables false
set_option linter.unusedSimpArgs false
open Go.RowKit

section
variable {W w w0 w' : World} {bl : Bl} {ow : List Ro} {g gk g8 : Nat} {kb : List UInt8} {cs : List C4}
/-- .. by what a call of Mask has left. -/
theorem mask_at {w0 : World} {l : List Int} {Ar : Option Addr} {cr n : Nat} (hl : Rd w0 w0.heap.size 1 Ar l.length (l.map (.int .i64))) (hn : l.length ≤ 1000000) (hro : rolesOk l = true) (hnn : l.length = n) :
    Calls Try.prog 82 #[.slice Ar n cr] w0 fun e w' => e = .returned (.tuple #[.int .i64 (maskN l : Nat), .int .i64 0]) ∧ w0 = w' := by
  subst hnn
  refine (mask_any l Ar cr _ hl (by unfold maxLen; omega)).mono ?_
  rintro e w' ⟨he, rfl⟩
  rw [hro] at he
  exact ⟨he, rfl⟩
end
set_option maxRecDepth 100000 in
set_option maxHeartbeats 1000000 in
theorem issue_full (W w : World) (bl : Bl) (ow : List Ro) (g gk : Nat) (kb : List UInt8) (cs : List C4) (hM : MtX W bl ow g gk kb cs w) (hcs : cs.length = 256) (id ex : Int) (l : List Int) (Ar : Option Addr) (cr : Nat) (hl : Rd w w.heap.size 1 Ar l.length (l.map (.int .i64))) (hn : l.length ≤ 1000000) (hro : rolesOk l = true) :
    Calls Try.prog 38 #[.pointer (some ⟨g, 0, none⟩), .int .i64 id, .int .i64 ex, .slice Ar l.length cr] w fun e w' => e = .returned (.tuple #[.agg Y36, .int .i64 6]) ∧ MtX W bl ow g gk kb cs w' := by
  have h1 := hM.newb 78 Y36
  obtain ⟨n, hnn⟩ : ∃ n, l.length = n := ⟨_, rfl⟩
  have hb := (Below.refl w.heap.size w).alloc (Nat.le_refl _) (.cells Y36 78)
  have HM := Lib.hid (mask_at (cr := cr) ((hl.below hb).more hb.size) hn hro hnn)
  rw [hnn]
  have Mq := Lib.hid h1
  have HCS := Lib.hid hcs
  clear hM hl hn hro hnn h1 hb hcs
  go_enter Try.func38, Try.ntmps38
  go_wp2_with fail
  refine HM.out.mono ?_
  rintro e w1 ⟨rfl, hw1⟩
  have Mq := Lib.hid (show MtX W ((w.heap.size, 78, Y36) :: bl) ow g gk kb cs w1 from hw1 ▸ Mq.out)
  clear hw1
  obtain ⟨A, c, c0, -, -, -, -⟩ := Mq.out.cells
  rw [HCS.out] at c0
  go_wp2_with (first | refine wpList_buildG rfl _ rfl (.agg Y36) (build_tok0 _) ?_ | refine wpList_store_row rfl _ _ _ rfl w.heap.size Y36 rfl rfl 78 _ (Mq.out.blk (x := (w.heap.size, 78, Y36)) (List.mem_cons_self ..)) info_y36 rfl y36_one ?_)
  exact bodyPost_ret (results_cell2T (cs := Y36) rfl _ _ w.heap.size 78 (0, 0) _ rfl (setRow_heap _ _ _ _ _ _ (Mq.out.blk (x := (w.heap.size, 78, Y36)) (List.mem_cons_self ..))) Try.underlying78 rfl info_arr36) rfl (And.intro rfl ((Mq.out.setRow Y36).sub (List.sublist_cons_self _ _) (List.Sublist.refl _)))

/-- .. with the slices' words in the open. -/
def MtY (W : World) (bl : Bl) (ow : List Ro) (g gk : Nat) (kl : Nat) (kb : List UInt8) (q : Nat) (zs : List Value) (A : Option Addr) (c : Nat) (Ak : Option Addr) (ck : Nat) (w : World) : Prop :=
  Mst W w ((g, 134, #[.slice A q c, .pointer (some ⟨gk, 0, none⟩)]) :: (gk, 129, #[.slice Ak kl ck]) :: bl) (⟨30, 4, .slice A q c, q, zs⟩ :: ⟨5, 1, .slice Ak kl ck, kl, by8 kb⟩ :: ow)
section
variable {W w w' : World} {bl : Bl} {ow : List Ro} {g gk kl q c ck : Nat} {A Ak : Option Addr} {kb : List UInt8} {zs : List Value}
theorem MtY.below (h : MtY W bl ow g gk kl kb q zs A c Ak ck w) (hb : Below w.heap.size w w') : MtY W bl ow g gk kl kb q zs A c Ak ck w' := Mst.below h hb
theorem MtY.newX {t : TypeId} {ys : Array Value} (h : MtY W bl ow g gk kl kb q zs A c Ak ck w) (hw : w.alloc (.cells ys t) = w') : ∃ g2, w.heap.size = g2 ∧ MtY W ((g2, t, ys) :: bl) ow g gk kl kb q zs A c Ak ck w' := by
  subst hw
  exact ⟨_, rfl, (Mst.new h t ys).perm ((List.Perm.swap _ _ _).trans (List.Perm.cons _ (List.Perm.swap _ _ _))) (List.Perm.refl _)⟩
theorem MtY.setRow {r : Nat} {t : TypeId} {ys : Array Value} (h : MtY W ((r, t, ys) :: bl) ow g gk kl kb q zs A c Ak ck w) (ys' : Array Value) : MtY W ((r, t, ys') :: bl) ow g gk kl kb q zs A c Ak ck (w.setRow r ys') := Mst.setRow (bl := []) [_, _] h ys'
theorem MtY.blk (h : MtY W bl ow g gk kl kb q zs A c Ak ck w) {x : Nat × TypeId × Array Value} (hx : x ∈ bl) : Bk w x.1 x.2.1 x.2.2 := (h.bk x (List.mem_cons_of_mem _ (List.mem_cons_of_mem _ hx))).1
theorem MtY.key (h : MtY W bl ow g gk kl kb q zs A c Ak ck w) (hk : kb.length = kl) : KeyW w gk kb :=
  Mst.key h (List.mem_cons_of_mem _ (List.mem_cons_self ..)) hk (Mst.rowSrc h (e := 5) (List.mem_cons_of_mem _ (List.mem_cons_self ..)))
theorem MtY.cells (h : MtY W bl ow g gk kl kb q zs A c Ak ck w) : w.cell? ⟨g, 0, none⟩ = some (.slice A q c) ∧ w.cell? ⟨g, 1, none⟩ = some (.pointer (some ⟨gk, 0, none⟩)) := ⟨(Mst.blk [] h).cell 0, (Mst.blk [] h).cell 1⟩
theorem MtY.mx {cs : List C4} (h : MtY W bl ow g gk kl kb q (c4s cs) A c Ak ck w) (hk : kb.length = kl) (hq : cs.length = q) : MtX W bl ow g gk kb cs w := by
  subst hk hq
  exact ⟨A, c, Ak, ck, h⟩
theorem MtX.my {cs : List C4} (h : MtX W bl ow g gk kb cs w) (hk : kb.length = kl) (hq : cs.length = q) : ∃ A c Ak ck, MtY W bl ow g gk kl kb q (c4s cs) A c Ak ck w := by
  subst hk hq
  exact h
end
/-- Behind region 8: the token and the error. -/
def IsR (W : World) (bl : Bl) (ow : List Ro) (g gk g8 : Nat) (kl : Nat) (kb : List UInt8) (q : Nat) (zs : List Value) (A : Option Addr) (c : Nat) (Ak : Option Addr) (ck : Nat) (tk : Array Value) (e0 : Int) (s12 s11 : Value) (w : World) : Prop :=
  ∃ g12, s12 = .pointer (some ⟨g12, 0, none⟩) ∧ s11 = .int .i64 e0 ∧ MtY W ((g12, 78, tk) :: (g8, 78, Y36) :: bl) ow g gk kl kb q zs A c Ak ck w

theorem Mst.row4X {W w w2 : World} {bl : Bl} {y1 y2 : Ro} {ow : List Ro} {e : TypeId} {a b c d : Value} (h : Mst W w bl (y1 :: y2 :: ow)) (hw : w.alloc (.cells #[a, b, c, d] e) = w2) : ∃ g, w.heap.size = g ∧ Mst W w2 bl (y1 :: y2 :: ⟨e, 4, .slice (some ⟨g, 0, none⟩) 1 1, 1, [a, b, c, d]⟩ :: ow) := by
  subst hw
  exact ⟨_, rfl, (h.newrow e 4 1 1 #[a, b, c, d] (Nat.le_refl _) (by decide) rfl).perm (List.Perm.refl _) ((List.Perm.swap _ _ _).trans (List.Perm.cons _ (List.Perm.swap _ _ _)))⟩
theorem one4 (a b c d : Int) : ∀ u ∈ [Value.int .i64 a, .int .i64 b, .int .i64 c, .int .i64 d], u.oneCell' = true := by simp [Value.oneCell']
theorem el_iss : El Try.prog 132 30 4 32 := El.of Try.underlying132 (z := .agg #[.int .i64 0, .int .i64 0, .int .i64 0, .int .i64 0]) (by kernel_rfl) rfl (by decide)
theorem is_end {W w : World} {bl : Bl} {ow : List Ro} {g gk kl q c ck N g12 g8 : Nat} {A Ak : Option Addr} {kb : List UInt8} {cs : List C4} {i r x s : Int} {X : List Value} {y : Ro} {zs : Array Value}
    (h : Mst W w ((g, 134, #[.slice A N c, .pointer (some ⟨gk, 0, none⟩)]) :: (gk, 129, #[.slice Ak kl ck]) :: (g12, 78, zs) :: (g8, 78, Y36) :: bl) (⟨30, 4, .slice A N c, N, X⟩ :: ⟨5, 1, .slice Ak kl ck, kl, by8 kb⟩ :: y :: ow))
    (hN : N = q + 1) (hX : X = c4s cs ++ [.int .i64 i, .int .i64 r, .int .i64 x, .int .i64 s]) (hk : kb.length = kl) (hq : cs.length = q) (ys : Array Value) : MtX W bl ow g gk kb (cs ++ [(i, r, x, s)]) (w.setRow g8 ys) := by
  have h2 := Mst.setRow (bl := []) [_, _, _] h ys
  have e : X = c4s (cs ++ [(i, r, x, s)]) := by rw [hX, c4s_snoc]; rfl
  rw [e] at h2
  have h3 : MtY W _ _ g gk kl kb N (c4s (cs ++ [(i, r, x, s)])) A c Ak ck _ := h2
  exact MtX.sub (h3.mx hk (by rw [List.length_append, hq, hN]; rfl)) ((List.sublist_cons_self _ _).cons _) (List.sublist_cons_self _ _)

set_option maxRecDepth 100000 in
set_option maxHeartbeats 2000000 in
theorem issue_mk (W w : World) (bl : Bl) (ow : List Ro) (g gk : Nat) (kb : List UInt8) (cs : List C4) (hM : MtX W bl ow g gk kb cs w) (hcs : cs.length < 256) (id ex : Int) (l : List Int) (Ar : Option Addr) (cr : Nat) (hl : Rd w w.heap.size 1 Ar l.length (l.map (.int .i64))) (hn : l.length ≤ 1000000) (hro : rolesOk l = true)
    (i r x s : Int) (Kx : List UInt8) (hKl : Kx.length = 32) (e0 : Int) (tk : Array Value) (htk : (tk = Y36 ∧ e0 = 10) ∨ (tk = tkc i r x s Kx ∧ e0 = 0 ∧ (i, r, x, s) = (id, (maskN l : Int), ex, (cs.length : Int) + 1)))
    (hmk : ∀ w', KeyW w' gk kb → Calls Try.prog 50 #[.pointer (some ⟨gk, 0, none⟩), .agg #[.int .i64 id, .int .i64 (maskN l : Nat), .int .i64 ex, .int .i64 ((cs.length : Int) + 1)]] w' fun e w2 => e = .returned (.tuple #[.agg tk, .int .i64 e0]) ∧ Below w'.heap.size w' w2) :
    Calls Try.prog 38 #[.pointer (some ⟨g, 0, none⟩), .int .i64 id, .int .i64 ex, .slice Ar l.length cr] w fun e w' => e = .returned (.tuple #[.agg tk, .int .i64 e0]) ∧ MtX W bl ow g gk kb (if e0 = 0 then cs ++ [(i, r, x, s)] else cs) w' := by
  have h1 := hM.newb 78 Y36
  obtain ⟨n, hnn⟩ : ∃ n, l.length = n := ⟨_, rfl⟩
  have hb := (Below.refl w.heap.size w).alloc (Nat.le_refl _) (.cells Y36 78)
  have HM := Lib.hid (mask_at (cr := cr) ((hl.below hb).more hb.size) hn hro hnn)
  obtain ⟨mk, hmkn⟩ : ∃ mk, maskN l = mk := ⟨_, rfl⟩
  rw [hmkn] at HM hmk htk
  rw [hnn]
  have hinf : (Try.prog.info? 78).map (·.size) = some tk.size ∧ Y36.size = tk.size ∧ tk.all (·.oneCell') = true := by
    rcases htk with ⟨rfl, _⟩ | ⟨rfl, _⟩
    · exact ⟨info_y36, rfl, y36_one⟩
    · exact ⟨info_tok hKl, y36_k hKl, tkc_one _ _ _ _ _⟩
  have HI := Lib.hid hinf
  have Mq := Lib.hid h1
  obtain ⟨q, hq⟩ : ∃ q, cs.length = q := ⟨_, rfl⟩
  rw [hq] at hmk hcs htk
  have HQ := Lib.hid hq
  have HMK := Lib.hid hmk
  have HTK := Lib.hid htk
  have i1 : ((q : Int) == 256) = false := by simp; omega
  have i2 : IntKind.i64.wrap ((q : Int) + 1) = (q : Int) + 1 := IntWalk.i64_in _ (by omega)
  clear hM hl hn hro hnn h1 hb hmkn hinf hq hmk htk
  go_enter Try.func38, Try.ntmps38
  go_wp2_with fail
  refine HM.out.mono ?_
  rintro e w1 ⟨rfl, hw1⟩
  have Mq := Lib.hid (show MtX W ((w.heap.size, 78, Y36) :: bl) ow g gk kb cs w1.drew from (hw1 ▸ Mq.out).below (Below.refl _ _).drew)
  clear hw1
  obtain ⟨kl, hkl⟩ : ∃ n, kb.length = n := ⟨_, rfl⟩
  have HKL := Lib.hid hkl
  obtain ⟨A, c, Ak, ck, m⟩ := Mq.out.my hkl HQ.out
  have Mr := Lib.hid m
  have K0 := Lib.hid m.cells
  clear m hkl Mq
  obtain ⟨c0, c1⟩ := K0.out
  simp only [World.cell?_drew] at c0 c1
  go_upto_region 8 with fail
  go_cut [12, 11] (fun s12 s11 wr => IsR W bl ow g gk w.heap.size kl kb q (c4s cs) A c Ak ck tk e0 s12 s11 wr)
  case first =>
    refine wp_region_held_drew (S := fun w' => w'.cell? ⟨g, 0, none⟩ = some (.slice A q c) ∧ w'.cell? ⟨g, 1, none⟩ = some (.pointer (some ⟨gk, 0, none⟩))) (by kernel_rfl) ?_ (fun hHeld => ?_)
    · exact K0.out
    generalize World.drew _ = w7 at Mr hHeld ⊢
    have Mq := Mr
    refine wpAnyH_take (i := 0) (v := ?_) rfl (by kernel_rfl) (by kernel_rfl) (by kernel_rfl) (fun _ _ _ h => h) (Or.inl ⟨by rfl, ?_⟩) (by assumption) ?_
    rotate_left
    · intro w hSw; (try dsimp only at hSw); go_split_ands; go_simp; with_reducible rfl
    change wpAnyH _ _ _ _ _ _ _ (Act.put _ (some 35) _) _
    simp only [Act.put, List.setIfInBounds_toArray, List.set_cons_zero, List.set_cons_succ, Array.toArray_toList]
    refine wpAnyH_take (i := 1) (v := ?_) rfl (by kernel_rfl) (by kernel_rfl) (by kernel_rfl) (fun _ _ _ h => h) (Or.inl ⟨by rfl, ?_⟩) (by assumption) ?_
    rotate_left
    · intro w hSw; (try dsimp only at hSw); go_split_ands; go_simp; with_reducible rfl
    change wpAnyH _ _ _ _ _ _ _ (Act.put _ (some 36) _) _
    simp only [Act.put, List.setIfInBounds_toArray, List.set_cons_zero, List.set_cons_succ, Array.toArray_toList]
    refine wpAnyH_take (i := 2) (v := ?_) rfl (by kernel_rfl) (by kernel_rfl) (by kernel_rfl) (fun _ _ _ h => h) (Or.inl ⟨by rfl, ?_⟩) (by assumption) ?_
    rotate_left
    · intro w hSw; (try dsimp only at hSw); go_split_ands; go_simp; with_reducible rfl
    change wpAnyH _ _ _ _ _ _ _ (Act.put _ (some 37) _) _
    simp only [Act.put, List.setIfInBounds_toArray, List.set_cons_zero, List.set_cons_succ, Array.toArray_toList]
    refine wpAnyH_take (i := 3) (v := ?_) rfl (by kernel_rfl) (by kernel_rfl) (by kernel_rfl) (fun _ _ _ h => h) (Or.inl ⟨by rfl, ?_⟩) (by assumption) ?_
    rotate_left
    · intro w hSw; (try dsimp only at hSw); go_split_ands; go_simp; with_reducible rfl
    change wpAnyH _ _ _ _ _ _ _ (Act.put _ (some 38) _) _
    simp only [Act.put, List.setIfInBounds_toArray, List.set_cons_zero, List.set_cons_succ, Array.toArray_toList]
    refine wpAnyH_take (i := 4) (v := ?_) rfl (by kernel_rfl) (by kernel_rfl) (by kernel_rfl) (fun _ _ _ h => h) (Or.inl ⟨by rfl, ?_⟩) (by assumption) ?_
    rotate_left
    · intro w hSw; (try dsimp only at hSw); go_split_ands; go_simp; with_reducible rfl
    change wpAnyH _ _ _ _ _ _ _ (Act.put _ (some 39) _) _
    simp only [Act.put, List.setIfInBounds_toArray, List.set_cons_zero, List.set_cons_succ, Array.toArray_toList]
    refine wpAnyH_take (i := 5) (v := ?_) rfl (by kernel_rfl) (by kernel_rfl) (by kernel_rfl) (fun _ _ _ h => h) (Or.inl ⟨by rfl, ?_⟩) (by assumption) ?_
    rotate_left
    · intro w hSw; (try dsimp only at hSw); go_split_ands; go_simp; with_reducible rfl
    change wpAnyH _ _ _ _ _ _ _ (Act.put _ (some 40) _) _
    simp only [Act.put, List.setIfInBounds_toArray, List.set_cons_zero, List.set_cons_succ, Array.toArray_toList]
    refine wpAnyH_take (i := 6) (v := ?_) rfl (by kernel_rfl) (by kernel_rfl) (by kernel_rfl) (fun _ _ _ h => h) (Or.inl ⟨by rfl, ?_⟩) (by assumption) ?_
    rotate_left
    · intro w hSw; (try dsimp only at hSw); go_split_ands; go_simp; with_reducible rfl
    change wpAnyH _ _ _ _ _ _ _ (Act.put _ (some 41) _) _
    simp only [Act.put, List.setIfInBounds_toArray, List.set_cons_zero, List.set_cons_succ, Array.toArray_toList]
    refine wpAnyH_take (i := 7) (v := ?_) rfl (by kernel_rfl) (by kernel_rfl) (by kernel_rfl) (fun _ _ _ h => h) (Or.inl ⟨by rfl, ?_⟩) (by assumption) ?_
    rotate_left
    · intro w hSw; (try dsimp only at hSw); go_split_ands; go_simp; with_reducible rfl
    change wpAnyH _ _ _ _ _ _ _ (Act.put _ (some 42) _) _
    simp only [Act.put, List.setIfInBounds_toArray, List.set_cons_zero, List.set_cons_succ, Array.toArray_toList]
    refine wpAnyH_take (i := 8) (v := ?_) rfl (by kernel_rfl) (by kernel_rfl) (by kernel_rfl) (fun _ _ _ h => h) (Or.inl ⟨by rfl, ?_⟩) (by assumption) ?_
    rotate_left
    · intro w hSw; (try dsimp only at hSw); go_split_ands; go_simp; with_reducible rfl
    change wpAnyH _ _ _ _ _ _ _ (Act.put _ (some 43) _) _
    simp only [Act.put, List.setIfInBounds_toArray, List.set_cons_zero, List.set_cons_succ, Array.toArray_toList]
    refine wpAnyH_take (i := 9) (v := ?_) rfl (by kernel_rfl) (by kernel_rfl) (by kernel_rfl) (fun _ _ _ h => h) (Or.inl ⟨by rfl, ?_⟩) (by assumption) ?_
    rotate_left
    · intro w hSw; (try dsimp only at hSw); go_split_ands; go_simp; with_reducible rfl
    change wpAnyH _ _ _ _ _ _ _ (Act.put _ (some 44) _) _
    simp only [Act.put, List.setIfInBounds_toArray, List.set_cons_zero, List.set_cons_succ, Array.toArray_toList]
    refine wpAnyH_take (i := 10) (v := ?_) rfl (by kernel_rfl) (by kernel_rfl) (by kernel_rfl) (fun _ _ _ h => h) (Or.inl ⟨by rfl, ?_⟩) (by assumption) ?_
    rotate_left
    · intro w hSw; (try dsimp only at hSw); go_split_ands; go_simp; with_reducible rfl
    change wpAnyH _ _ _ _ _ _ _ (Act.put _ (some 45) _) _
    simp only [Act.put, List.setIfInBounds_toArray, List.set_cons_zero, List.set_cons_succ, Array.toArray_toList]
    refine wpAnyH_take (i := 11) (v := ?_) rfl (by kernel_rfl) (by kernel_rfl) (by kernel_rfl) (fun _ _ _ h => h) (Or.inl ⟨by rfl, ?_⟩) (by assumption) ?_
    rotate_left
    · intro w hSw; (try dsimp only at hSw); go_split_ands; go_simp; with_reducible rfl
    change wpAnyH _ _ _ _ _ _ _ (Act.put _ (some 46) _) _
    simp only [Act.put, List.setIfInBounds_toArray, List.set_cons_zero, List.set_cons_succ, Array.toArray_toList]
    refine wpAnyH_take (i := 12) (v := ?_) rfl (by kernel_rfl) (by kernel_rfl) (by kernel_rfl) (fun _ _ _ h => h) (Or.inl ⟨by rfl, ?_⟩) (by assumption) ?_
    rotate_left
    · intro w hSw; (try dsimp only at hSw); go_split_ands; go_simp; with_reducible rfl
    change wpAnyH _ _ _ _ _ _ _ (Act.put _ (some 47) _) _
    simp only [Act.put, List.setIfInBounds_toArray, List.set_cons_zero, List.set_cons_succ, Array.toArray_toList]
    refine wpAnyH_take (i := 13) (v := ?_) rfl (by kernel_rfl) (by kernel_rfl) (by kernel_rfl) (fun _ _ _ h => h) (Or.inl ⟨by rfl, ?_⟩) (by assumption) ?_
    rotate_left
    · intro w hSw; (try dsimp only at hSw); go_split_ands; go_simp; with_reducible rfl
    change wpAnyH _ _ _ _ _ _ _ (Act.put _ (some 48) _) _
    simp only [Act.put, List.setIfInBounds_toArray, List.set_cons_zero, List.set_cons_succ, Array.toArray_toList]
    refine wpAnyH_ready (rs := [14, 18]) (by kernel_rfl) (by simp) ?_
    refine (AllReadyH.cons rfl (fun K hK => ?_) (AllReadyH.cons rfl (fun K hK => ?_) AllReadyH.nil))
    · skip
      go_simp
      (with_reducible refine (HMK.out _ (Mq.out.key HKL.out)).mono ?_); rintro e wq ⟨rfl, hb⟩; have Mq := Lib.hid (Mq.out.below hb); clear hb
      go_wp2_with fail
      refine hK.out _ _ (by exact Mq.out.cells) (fun hHeld => ?_)
      clear hK K
      refine wpAnyH_take (i := 15) (v := ?_) rfl (by kernel_rfl) (by kernel_rfl) (by kernel_rfl) (fun _ _ _ h => h) (Or.inl ⟨by rfl, ?_⟩) (by assumption) ?_
      rotate_left
      · intro w hSw; (try dsimp only at hSw); go_split_ands; go_simp; with_reducible rfl
      change wpAnyH _ _ _ _ _ _ _ (Act.put _ (some 34) _) _
      simp only [Act.put, List.setIfInBounds_toArray, List.set_cons_zero, List.set_cons_succ, Array.toArray_toList]
      refine wpAnyH_take (i := 16) (v := ?_) rfl (by kernel_rfl) (by kernel_rfl) (by kernel_rfl) (fun _ _ _ h => h) (Or.inl ⟨by rfl, ?_⟩) (by assumption) ?_
      rotate_left
      · intro w hSw; (try dsimp only at hSw); go_split_ands; go_simp; with_reducible rfl
      change wpAnyH _ _ _ _ _ _ _ (Act.put _ (some 50) _) _
      simp only [Act.put, List.setIfInBounds_toArray, List.set_cons_zero, List.set_cons_succ, Array.toArray_toList]
      refine wpAnyH_take (i := 17) (v := ?_) rfl (by kernel_rfl) (by kernel_rfl) (by kernel_rfl) (fun _ _ _ h => h) (Or.inl ⟨by rfl, ?_⟩) (by assumption) ?_
      rotate_left
      · intro w hSw; (try dsimp only at hSw); go_split_ands; go_simp; with_reducible rfl
      change wpAnyH _ _ _ _ _ _ _ (Act.put _ (some 51) _) _
      simp only [Act.put, List.setIfInBounds_toArray, List.set_cons_zero, List.set_cons_succ, Array.toArray_toList]
      refine wpAnyH_ready (rs := [18]) (by kernel_rfl) (by simp) ?_
      refine (AllReadyH.cons rfl (fun K hK => ?_) AllReadyH.nil)
      go_simp; generalize hwq : World.alloc _ _ = wq; obtain ⟨g12, hg12, mq⟩ := Mq.out.newX hwq; rw [hg12]; have Mq := Lib.hid mq; clear hwq hg12 mq
      refine hK.out _ _ (by exact Mq.out.cells) (fun hHeld => ?_)
      clear hK K
      refine wpAnyH_ready (rs := [19]) (by kernel_rfl) (by simp) ?_
      refine (AllReadyH.cons rfl (fun K hK => ?_) AllReadyH.nil)
      refine step_store_row rfl _ _ _ rfl g12 tk rfl rfl 78 _ (Mq.out.blk (x := (g12, 78, Y36)) (List.mem_cons_self ..)) HI.out.1 HI.out.2.1 HI.out.2.2 ?_; have Mq := Lib.hid (Mq.out.setRow tk)
      refine hK.out _ _ (by exact Mq.out.cells) (fun hHeld => ?_)
      clear hK K
      refine wpAnyH_take (i := 20) (v := ?_) rfl (by kernel_rfl) (by kernel_rfl) (by kernel_rfl) (fun _ _ _ h => h) (Or.inl ⟨by rfl, ?_⟩) (by assumption) ?_
      rotate_left
      · intro w hSw; (try dsimp only at hSw); go_split_ands; go_simp; with_reducible rfl
      change wpAnyH _ _ _ _ _ _ _ (Act.put _ (some 11) _) _
      simp only [Act.put, List.setIfInBounds_toArray, List.set_cons_zero, List.set_cons_succ, Array.toArray_toList]
      refine wpAnyH_done (by kernel_rfl) ?_ _
      go_wp2_with fail
      go_meet
      exact ⟨_, rfl, rfl, Mq.out⟩
    · skip
      go_simp; generalize hwq : World.alloc _ _ = wq; obtain ⟨g12, hg12, mq⟩ := Mq.out.newX hwq; rw [hg12]; have Mq := Lib.hid mq; clear hwq hg12 mq
      refine hK.out _ _ (by exact Mq.out.cells) (fun hHeld => ?_)
      clear hK K
      refine wpAnyH_ready (rs := [14]) (by kernel_rfl) (by simp) ?_
      refine (AllReadyH.cons rfl (fun K hK => ?_) AllReadyH.nil)
      go_simp
      (with_reducible refine (HMK.out _ (Mq.out.key HKL.out)).mono ?_); rintro e wq ⟨rfl, hb⟩; have Mq := Lib.hid (Mq.out.below hb); clear hb
      go_wp2_with fail
      refine hK.out _ _ (by exact Mq.out.cells) (fun hHeld => ?_)
      clear hK K
      refine wpAnyH_take (i := 15) (v := ?_) rfl (by kernel_rfl) (by kernel_rfl) (by kernel_rfl) (fun _ _ _ h => h) (Or.inl ⟨by rfl, ?_⟩) (by assumption) ?_
      rotate_left
      · intro w hSw; (try dsimp only at hSw); go_split_ands; go_simp; with_reducible rfl
      change wpAnyH _ _ _ _ _ _ _ (Act.put _ (some 34) _) _
      simp only [Act.put, List.setIfInBounds_toArray, List.set_cons_zero, List.set_cons_succ, Array.toArray_toList]
      refine wpAnyH_take (i := 16) (v := ?_) rfl (by kernel_rfl) (by kernel_rfl) (by kernel_rfl) (fun _ _ _ h => h) (Or.inl ⟨by rfl, ?_⟩) (by assumption) ?_
      rotate_left
      · intro w hSw; (try dsimp only at hSw); go_split_ands; go_simp; with_reducible rfl
      change wpAnyH _ _ _ _ _ _ _ (Act.put _ (some 50) _) _
      simp only [Act.put, List.setIfInBounds_toArray, List.set_cons_zero, List.set_cons_succ, Array.toArray_toList]
      refine wpAnyH_take (i := 17) (v := ?_) rfl (by kernel_rfl) (by kernel_rfl) (by kernel_rfl) (fun _ _ _ h => h) (Or.inl ⟨by rfl, ?_⟩) (by assumption) ?_
      rotate_left
      · intro w hSw; (try dsimp only at hSw); go_split_ands; go_simp; with_reducible rfl
      change wpAnyH _ _ _ _ _ _ _ (Act.put _ (some 51) _) _
      simp only [Act.put, List.setIfInBounds_toArray, List.set_cons_zero, List.set_cons_succ, Array.toArray_toList]
      refine wpAnyH_ready (rs := [19]) (by kernel_rfl) (by simp) ?_
      refine (AllReadyH.cons rfl (fun K hK => ?_) AllReadyH.nil)
      refine step_store_row rfl _ _ _ rfl g12 tk rfl rfl 78 _ (Mq.out.blk (x := (g12, 78, Y36)) (List.mem_cons_self ..)) HI.out.1 HI.out.2.1 HI.out.2.2 ?_; have Mq := Lib.hid (Mq.out.setRow tk)
      refine hK.out _ _ (by exact Mq.out.cells) (fun hHeld => ?_)
      clear hK K
      refine wpAnyH_take (i := 20) (v := ?_) rfl (by kernel_rfl) (by kernel_rfl) (by kernel_rfl) (fun _ _ _ h => h) (Or.inl ⟨by rfl, ?_⟩) (by assumption) ?_
      rotate_left
      · intro w hSw; (try dsimp only at hSw); go_split_ands; go_simp; with_reducible rfl
      change wpAnyH _ _ _ _ _ _ _ (Act.put _ (some 11) _) _
      simp only [Act.put, List.setIfInBounds_toArray, List.set_cons_zero, List.set_cons_succ, Array.toArray_toList]
      refine wpAnyH_done (by kernel_rfl) ?_ _
      go_wp2_with fail
      go_meet
      exact ⟨_, rfl, rfl, Mq.out⟩
  case rest =>
    clear c0 c1 K0 Mr HMK HM
    obtain ⟨g12, rfl, rfl, mq⟩ := hcut
    have Mq := Lib.hid mq
    clear mq
    rcases HTK.out with ⟨h1, h2⟩ | ⟨h1, h2, h3⟩
    · subst h1 h2
      go_wp2_with (first | refine wpList_buildG rfl _ rfl (.agg Y36) (build_tok0 _) ?_ | refine wpList_store_row rfl _ _ _ rfl w.heap.size Y36 rfl rfl 78 _ (Mq.out.blk (x := (w.heap.size, 78, Y36)) (List.mem_cons_of_mem _ (List.mem_cons_self ..))) info_y36 rfl y36_one ?_)
      refine bodyPost_ret (results_cell2T (cs := Y36) rfl _ _ w.heap.size 78 (0, 0) _ rfl (setRow_heap _ _ _ _ _ _ (Mq.out.blk (x := (w.heap.size, 78, Y36)) (List.mem_cons_of_mem _ (List.mem_cons_self ..)))) Try.underlying78 rfl info_arr36) rfl (And.intro rfl ?_)
      have m := Mst.setRow (bl := []) [_, _, _] Mq.out Y36
      exact MtX.sub (MtY.mx m HKL.out HQ.out) ((List.sublist_cons_self _ _).cons _) (List.Sublist.refl _)
    · subst h1 h2
      have HK3 := Lib.hid h3
      have KL := Lib.hid hKl
      have HC12 := Lib.hid (show ∀ w' a b bl' ow', Mst W w' (a :: b :: (g12, 78, tkc i r x s Kx) :: bl') ow' → w'.cell? ⟨g12, 0, none⟩ = some (.int .i64 i) ∧ w'.cell? ⟨g12, 1, none⟩ = some (.int .i64 r) ∧ w'.cell? ⟨g12, 2, none⟩ = some (.int .i64 x) ∧ w'.cell? ⟨g12, 3, none⟩ = some (.int .i64 s) from fun w' a b bl' ow' h => tkc_cells (h.blk [_, _]))
      have K0 := Lib.hid (HC12.out _ _ _ _ _ (Mst.drew Mq.out))
      have hq6 : q < 256 := hcs
      clear h3
      go_upto_region 11 with fail
      refine wp_region_held_drew (S := fun w' => w'.cell? ⟨g12, 0, none⟩ = some (.int .i64 i) ∧ w'.cell? ⟨g12, 1, none⟩ = some (.int .i64 r) ∧ w'.cell? ⟨g12, 2, none⟩ = some (.int .i64 x) ∧ w'.cell? ⟨g12, 3, none⟩ = some (.int .i64 s)) (by kernel_rfl) ?_ (fun hHeld => ?_)
      · exact K0.out
      generalize hw7 : World.drew _ = w7 at hHeld ⊢
      have Mq := Lib.hid (show Mst W w7 _ _ from hw7 ▸ Mst.drew Mq.out)
      clear hw7
      refine wpAnyH_take (i := 0) (v := ?_) rfl (by kernel_rfl) (by kernel_rfl) (by kernel_rfl) (fun _ _ _ h => h) (Or.inl ⟨by rfl, ?_⟩) (by assumption) ?_
      rotate_left
      · intro w hSw; (try dsimp only at hSw); go_split_ands; go_simp; with_reducible rfl
      change wpAnyH _ _ _ _ _ _ _ (Act.put _ (some 56) _) _
      simp only [Act.put, List.setIfInBounds_toArray, List.set_cons_zero, List.set_cons_succ, Array.toArray_toList]
      refine wpAnyH_take (i := 1) (v := ?_) rfl (by kernel_rfl) (by kernel_rfl) (by kernel_rfl) (fun _ _ _ h => h) (Or.inl ⟨by rfl, ?_⟩) (by assumption) ?_
      rotate_left
      · intro w hSw; (try dsimp only at hSw); go_split_ands; go_simp; with_reducible rfl
      change wpAnyH _ _ _ _ _ _ _ (Act.put _ (some 57) _) _
      simp only [Act.put, List.setIfInBounds_toArray, List.set_cons_zero, List.set_cons_succ, Array.toArray_toList]
      refine wpAnyH_take (i := 2) (v := ?_) rfl (by kernel_rfl) (by kernel_rfl) (by kernel_rfl) (fun _ _ _ h => h) (Or.inl ⟨by rfl, ?_⟩) (by assumption) ?_
      rotate_left
      · intro w hSw; (try dsimp only at hSw); go_split_ands; go_simp; with_reducible rfl
      change wpAnyH _ _ _ _ _ _ _ (Act.put _ (some 58) _) _
      simp only [Act.put, List.setIfInBounds_toArray, List.set_cons_zero, List.set_cons_succ, Array.toArray_toList]
      refine wpAnyH_take (i := 3) (v := ?_) rfl (by kernel_rfl) (by kernel_rfl) (by kernel_rfl) (fun _ _ _ h => h) (Or.inl ⟨by rfl, ?_⟩) (by assumption) ?_
      rotate_left
      · intro w hSw; (try dsimp only at hSw); go_split_ands; go_simp; with_reducible rfl
      change wpAnyH _ _ _ _ _ _ _ (Act.put _ (some 59) _) _
      simp only [Act.put, List.setIfInBounds_toArray, List.set_cons_zero, List.set_cons_succ, Array.toArray_toList]
      refine wpAnyH_take (i := 5) (v := ?_) rfl (by kernel_rfl) (by kernel_rfl) (by kernel_rfl) (fun _ _ _ h => h) (Or.inl ⟨by rfl, ?_⟩) (by assumption) ?_
      rotate_left
      · intro w hSw; (try dsimp only at hSw); go_split_ands; go_simp; with_reducible rfl
      change wpAnyH _ _ _ _ _ _ _ (Act.put _ (some 61) _) _
      simp only [Act.put, List.setIfInBounds_toArray, List.set_cons_zero, List.set_cons_succ, Array.toArray_toList]
      refine wpAnyH_take (i := 6) (v := ?_) rfl (by kernel_rfl) (by kernel_rfl) (by kernel_rfl) (fun _ _ _ h => h) (Or.inl ⟨by rfl, ?_⟩) (by assumption) ?_
      rotate_left
      · intro w hSw; (try dsimp only at hSw); go_split_ands; go_simp; with_reducible rfl
      change wpAnyH _ _ _ _ _ _ _ (Act.put _ (some 62) _) _
      simp only [Act.put, List.setIfInBounds_toArray, List.set_cons_zero, List.set_cons_succ, Array.toArray_toList]
      refine wpAnyH_ready (rs := [4, 7]) (by kernel_rfl) (by simp) ?_
      refine (AllReadyH.cons rfl (fun K hK => ?_) (AllReadyH.cons rfl (fun K hK => ?_) AllReadyH.nil))
      · skip
        have q0 := (Mq.out.blk []).cell 0; simp at q0; go_simp; clear q0
        refine hK.out _ _ (by exact HC12.out _ _ _ _ _ Mq.out) (fun hHeld => ?_)
        clear hK K
        (try (change wpAnyH _ _ _ _ _ _ _ (Act.put _ (some 60) _) _; simp only [Act.put, List.setIfInBounds_toArray, List.set_cons_zero, List.set_cons_succ, Array.toArray_toList]))
        refine wpAnyH_ready (rs := [7]) (by kernel_rfl) (by simp) ?_
        refine (AllReadyH.cons rfl (fun K hK => ?_) AllReadyH.nil)
        go_simp; generalize hwq : World.alloc _ _ = wq; obtain ⟨g21, hg21, mq⟩ := Mq.out.row4X hwq; rw [hg21]; have Mq := Lib.hid mq; clear hwq hg21 mq
        refine hK.out _ _ (by exact HC12.out _ _ _ _ _ Mq.out) (fun hHeld => ?_)
        clear hK K
        refine wpAnyH_ready (rs := [8]) (by kernel_rfl) (by simp) ?_
        refine (AllReadyH.cons rfl (fun K hK => ?_) AllReadyH.nil)
        refine step_appE rfl _ _ 132 rfl [] Mq.out el_iss rfl _ (some ⟨g21, 0, none⟩) 1 1 [.int .i64 i, .int .i64 r, .int .i64 x, .int .i64 s] rfl (Mq.out.src (Mq.out.rowSrc (List.mem_cons_of_mem _ (List.mem_cons_of_mem _ (List.mem_cons_self ..))))) (one4 _ _ _ _) (by unfold maxLen; omega) (by omega) ?_; intro A7 c7 w8 N7 X7 hn7 hx7 mq; have Mq := Lib.hid mq; have HN7 := Lib.hid hn7; have HX7 := Lib.hid hx7; clear mq hn7 hx7
        refine hK.out _ _ (by exact HC12.out _ _ _ _ _ Mq.out) (fun hHeld => ?_)
        clear hK K
        (try (change wpAnyH _ _ _ _ _ _ _ (Act.put _ (some 64) _) _; simp only [Act.put, List.setIfInBounds_toArray, List.set_cons_zero, List.set_cons_succ, Array.toArray_toList]))
        refine wpAnyH_take (i := 9) (v := ?_) rfl (by kernel_rfl) (by kernel_rfl) (by kernel_rfl) (fun _ _ _ h => h) (Or.inl ⟨by rfl, ?_⟩) (by assumption) ?_
        rotate_left
        · intro w hSw; (try dsimp only at hSw); go_split_ands; go_simp; with_reducible rfl
        change wpAnyH _ _ _ _ _ _ _ (Act.put _ (some 65) _) _
        simp only [Act.put, List.setIfInBounds_toArray, List.set_cons_zero, List.set_cons_succ, Array.toArray_toList]
        refine wpAnyH_take (i := 10) (v := ?_) rfl (by kernel_rfl) (by kernel_rfl) (by kernel_rfl) (fun _ _ _ h => h) (Or.inl ⟨by rfl, ?_⟩) (by assumption) ?_
        rotate_left
        · intro w hSw; (try dsimp only at hSw); go_split_ands; go_simp; with_reducible rfl
        change wpAnyH _ _ _ _ _ _ _ (Act.put _ (some 66) _) _
        simp only [Act.put, List.setIfInBounds_toArray, List.set_cons_zero, List.set_cons_succ, Array.toArray_toList]
        refine wpAnyH_ready (rs := [11]) (by kernel_rfl) (by simp) ?_
        refine (AllReadyH.cons rfl (fun K hK => ?_) AllReadyH.nil)
        have q0 := (Mq.out.blk []).cell 0; have q1 := (Mq.out.blk []).fr 0; simp at q0; go_simp; generalize hwq : World.setCell _ _ _ = wq; have Mq := Lib.hid (show Mst W wq _ _ from hwq ▸ Mst.put [] Mq.out 0 (.slice A7 N7 c7)); clear q0 q1 hwq
        refine hK.out _ _ (by exact HC12.out _ _ _ _ _ Mq.out) (fun hHeld => ?_)
        clear hK K
        refine wpAnyH_done (by kernel_rfl) ?_ _
        clear hHeld K0
        have hR12 := Lib.hid (Bk.range (Mq.out.blk [_, _]) (o := 0) (xs := (tkc i r x s Kx).toList) (fun j v h => by simpa using h))
        go_wp2_with (first | refine wpList_loadG rfl _ _ rfl g12 0 rfl (tkc i r x s Kx) _ hR12.out Try.underlying78 rfl (info_tok KL.out) ?_ | refine wpList_store_row rfl _ _ _ rfl w.heap.size (tkc i r x s Kx) rfl rfl 78 _ (Mq.out.blk [_, _, _]) (info_tok KL.out) (y36_k KL.out) (tkc_one _ _ _ _ _) ?_)
        refine bodyPost_ret (results_cell2T rfl _ _ w.heap.size 78 _ (0, 0) _ rfl (setRow_heap _ _ _ _ _ _ (Mq.out.blk [_, _, _])) Try.underlying78 rfl (info_tok KL.out)) rfl (And.intro rfl ?_)
        exact is_end Mq.out HN7.out HX7.out HKL.out HQ.out _
      · skip
        go_simp; generalize hwq : World.alloc _ _ = wq; obtain ⟨g21, hg21, mq⟩ := Mq.out.row4X hwq; rw [hg21]; have Mq := Lib.hid mq; clear hwq hg21 mq
        refine hK.out _ _ (by exact HC12.out _ _ _ _ _ Mq.out) (fun hHeld => ?_)
        clear hK K
        refine wpAnyH_ready (rs := [4]) (by kernel_rfl) (by simp) ?_
        refine (AllReadyH.cons rfl (fun K hK => ?_) AllReadyH.nil)
        have q0 := (Mq.out.blk []).cell 0; simp at q0; go_simp; clear q0
        refine hK.out _ _ (by exact HC12.out _ _ _ _ _ Mq.out) (fun hHeld => ?_)
        clear hK K
        (try (change wpAnyH _ _ _ _ _ _ _ (Act.put _ (some 60) _) _; simp only [Act.put, List.setIfInBounds_toArray, List.set_cons_zero, List.set_cons_succ, Array.toArray_toList]))
        refine wpAnyH_ready (rs := [8]) (by kernel_rfl) (by simp) ?_
        refine (AllReadyH.cons rfl (fun K hK => ?_) AllReadyH.nil)
        refine step_appE rfl _ _ 132 rfl [] Mq.out el_iss rfl _ (some ⟨g21, 0, none⟩) 1 1 [.int .i64 i, .int .i64 r, .int .i64 x, .int .i64 s] rfl (Mq.out.src (Mq.out.rowSrc (List.mem_cons_of_mem _ (List.mem_cons_of_mem _ (List.mem_cons_self ..))))) (one4 _ _ _ _) (by unfold maxLen; omega) (by omega) ?_; intro A7 c7 w8 N7 X7 hn7 hx7 mq; have Mq := Lib.hid mq; have HN7 := Lib.hid hn7; have HX7 := Lib.hid hx7; clear mq hn7 hx7
        refine hK.out _ _ (by exact HC12.out _ _ _ _ _ Mq.out) (fun hHeld => ?_)
        clear hK K
        (try (change wpAnyH _ _ _ _ _ _ _ (Act.put _ (some 64) _) _; simp only [Act.put, List.setIfInBounds_toArray, List.set_cons_zero, List.set_cons_succ, Array.toArray_toList]))
        refine wpAnyH_take (i := 9) (v := ?_) rfl (by kernel_rfl) (by kernel_rfl) (by kernel_rfl) (fun _ _ _ h => h) (Or.inl ⟨by rfl, ?_⟩) (by assumption) ?_
        rotate_left
        · intro w hSw; (try dsimp only at hSw); go_split_ands; go_simp; with_reducible rfl
        change wpAnyH _ _ _ _ _ _ _ (Act.put _ (some 65) _) _
        simp only [Act.put, List.setIfInBounds_toArray, List.set_cons_zero, List.set_cons_succ, Array.toArray_toList]
        refine wpAnyH_take (i := 10) (v := ?_) rfl (by kernel_rfl) (by kernel_rfl) (by kernel_rfl) (fun _ _ _ h => h) (Or.inl ⟨by rfl, ?_⟩) (by assumption) ?_
        rotate_left
        · intro w hSw; (try dsimp only at hSw); go_split_ands; go_simp; with_reducible rfl
        change wpAnyH _ _ _ _ _ _ _ (Act.put _ (some 66) _) _
        simp only [Act.put, List.setIfInBounds_toArray, List.set_cons_zero, List.set_cons_succ, Array.toArray_toList]
        refine wpAnyH_ready (rs := [11]) (by kernel_rfl) (by simp) ?_
        refine (AllReadyH.cons rfl (fun K hK => ?_) AllReadyH.nil)
        have q0 := (Mq.out.blk []).cell 0; have q1 := (Mq.out.blk []).fr 0; simp at q0; go_simp; generalize hwq : World.setCell _ _ _ = wq; have Mq := Lib.hid (show Mst W wq _ _ from hwq ▸ Mst.put [] Mq.out 0 (.slice A7 N7 c7)); clear q0 q1 hwq
        refine hK.out _ _ (by exact HC12.out _ _ _ _ _ Mq.out) (fun hHeld => ?_)
        clear hK K
        refine wpAnyH_done (by kernel_rfl) ?_ _
        clear hHeld K0
        have hR12 := Lib.hid (Bk.range (Mq.out.blk [_, _]) (o := 0) (xs := (tkc i r x s Kx).toList) (fun j v h => by simpa using h))
        go_wp2_with (first | refine wpList_loadG rfl _ _ rfl g12 0 rfl (tkc i r x s Kx) _ hR12.out Try.underlying78 rfl (info_tok KL.out) ?_ | refine wpList_store_row rfl _ _ _ rfl w.heap.size (tkc i r x s Kx) rfl rfl 78 _ (Mq.out.blk [_, _, _]) (info_tok KL.out) (y36_k KL.out) (tkc_one _ _ _ _ _) ?_)
        refine bodyPost_ret (results_cell2T rfl _ _ w.heap.size 78 _ (0, 0) _ rfl (setRow_heap _ _ _ _ _ _ (Mq.out.blk [_, _, _])) Try.underlying78 rfl (info_tok KL.out)) rfl (And.intro rfl ?_)
        exact is_end Mq.out HN7.out HX7.out HKL.out HQ.out _
end Go.Proofs.Ytghcdffpplimoaa
