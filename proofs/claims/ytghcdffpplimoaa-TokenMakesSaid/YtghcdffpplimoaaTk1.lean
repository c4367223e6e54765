/- Package token: plain words; contracts of Make, Holds. -/
import Derived.Test.YtghcdffpplimoaaExtD
import Derived.Test.YtghcdffpplimoaaCl2
namespace Go.Proofs.Ytghcdffpplimoaa
set_option linter.unusedVariables false
set_option linter.unusedSimpArgs false
open Go.RowKit

abbrev tokenS : ByteArray := ⟨#[116, 111, 107, 101, 110]⟩
abbrev proofS : ByteArray := ⟨#[112, 114, 111, 111, 102]⟩
/-- The secret of claims. -/
def secB (kb : List UInt8) (i r x s : Int) : List UInt8 := macT kb (frameB [tokenS.data.toList, clB i r x s])
theorem secB_len (kb : List UInt8) (i r x s : Int) : (secB kb i r x s).length = 32 := rfl
/-- A token's cells. -/
def tkc (i r x s : Int) (K : List UInt8) : Array Value := #[.int .i64 i, .int .i64 r, .int .i64 x, .int .i64 s] ++ b8a K
abbrev Y36 : Array Value := #[.int .i64 0, .int .i64 0, .int .i64 0, .int .i64 0, .int .u8 0, .int .u8 0, .int .u8 0, .int .u8 0, .int .u8 0, .int .u8 0, .int .u8 0, .int .u8 0, .int .u8 0, .int .u8 0, .int .u8 0, .int .u8 0, .int .u8 0, .int .u8 0, .int .u8 0, .int .u8 0, .int .u8 0, .int .u8 0, .int .u8 0, .int .u8 0, .int .u8 0, .int .u8 0, .int .u8 0, .int .u8 0, .int .u8 0, .int .u8 0, .int .u8 0, .int .u8 0, .int .u8 0, .int .u8 0, .int .u8 0, .int .u8 0]
theorem tkc_size {i r x s : Int} {K : List UInt8} (h : K.length = 32) : (tkc i r x s K).size = 36 := by simp [tkc, b8a_size, h]
theorem tkc_one (i r x s : Int) (K : List UInt8) : (tkc i r x s K).all (·.oneCell') = true := by
  rw [tkc, Array.all_append, b8a_one]
  simp [Value.oneCell']
theorem info_arr36 : (Try.prog.info? 78).map (·.size) = some 36 := by kernel_rfl
theorem info_y36 : (Try.prog.info? 78).map (·.size) = some Y36.size := info_arr36
theorem y36_one : Y36.all (·.oneCell') = true := by simp [Value.oneCell']
theorem info_tok {i r x s : Int} {K : List UInt8} (h : K.length = 32) : (Try.prog.info? 78).map (·.size) = some (tkc i r x s K).size := by rw [tkc_size h]; exact info_arr36
theorem y36_k {i r x s : Int} {K : List UInt8} (h : K.length = 32) : Y36.size = (tkc i r x s K).size := by rw [tkc_size h]; rfl
theorem tkc_get4 {i r x s : Int} {K : List UInt8} (j : Nat) : (tkc i r x s K)[4 + j]? = (b8a K)[j]? := by
  unfold tkc
  rw [Array.getElem?_append_right (by simp)]
  congr 1
  simp
theorem tkc_range {w : World} {g : Nat} {t : TypeId} {i r x s : Int} {K : List UInt8} (h : Bk w g t (tkc i r x s K)) : w.rangeAt g 4 (by8 K) := fun j v hv => by rw [h.cell, tkc_get4]; simpa [b8a] using hv
theorem tkc_cells {w : World} {g : Nat} {t : TypeId} {i r x s : Int} {K : List UInt8} (h : Bk w g t (tkc i r x s K)) :
    w.cell? ⟨g, 0, none⟩ = some (.int .i64 i) ∧ w.cell? ⟨g, 1, none⟩ = some (.int .i64 r) ∧ w.cell? ⟨g, 2, none⟩ = some (.int .i64 x) ∧ w.cell? ⟨g, 3, none⟩ = some (.int .i64 s) :=
  ⟨(h.cell 0).trans (by simp [tkc, Array.getElem?_append_left]), (h.cell 1).trans (by simp [tkc, Array.getElem?_append_left]), (h.cell 2).trans (by simp [tkc, Array.getElem?_append_left]), (h.cell 3).trans (by simp [tkc, Array.getElem?_append_left])⟩
theorem tkc_rb {w : World} {g : Nat} {t : TypeId} {i r x s : Int} {K : List UInt8} (h : Bk w g t (tkc i r x s K)) : RB w w.heap.size (some ⟨g, 4, none⟩) K :=
  ⟨by simp [by8], fun _ => ⟨g, 4, rfl, h.lt, tkc_range h⟩⟩
theorem len32 : ∀ {K : List UInt8}, K.length = 32 → ∃ a0 a1 a2 a3 a4 a5 a6 a7 a8 a9 b0 b1 b2 b3 b4 b5 b6 b7 b8 b9 c0 c1 c2 c3 c4 c5 c6 c7 c8 c9 d0 d1, K = [a0, a1, a2, a3, a4, a5, a6, a7, a8, a9, b0, b1, b2, b3, b4, b5, b6, b7, b8, b9, c0, c1, c2, c3, c4, c5, c6, c7, c8, c9, d0, d1]
  | [a0, a1, a2, a3, a4, a5, a6, a7, a8, a9, b0, b1, b2, b3, b4, b5, b6, b7, b8, b9, c0, c1, c2, c3, c4, c5, c6, c7, c8, c9, d0, d1], _ => ⟨a0, a1, a2, a3, a4, a5, a6, a7, a8, a9, b0, b1, b2, b3, b4, b5, b6, b7, b8, b9, c0, c1, c2, c3, c4, c5, c6, c7, c8, c9, d0, d1, rfl⟩
set_option maxRecDepth 100000 in
theorem build_tok {K : List UInt8} (h : K.length = 32) (i r x s : Int) (w : World) : (Instr.build 78 #[(0, .agg #[.int .i64 i, .int .i64 r, .int .i64 x, .int .i64 s]), (1, .agg (b8a K))]).run Try.prog w = .ok (.agg (tkc i r x s K)) w := by
  obtain ⟨a0, a1, a2, a3, a4, a5, a6, a7, a8, a9, b0, b1, b2, b3, b4, b5, b6, b7, b8, b9, c0, c1, c2, c3, c4, c5, c6, c7, c8, c9, d0, d1, rfl⟩ := len32 h
  kernel_rfl
theorem build_tok0 (w : World) : (Instr.build 78 #[]).run Try.prog w = .ok (.agg Y36) w := by kernel_rfl
theorem arrayAt32 (a : Option Addr) (c : Nat) (w : World) : (Instr.arrayAt 27 (.slice a 32 c)).run Try.prog w = .ok (.pointer a) w := by simp [Instr.arrayAt, run_underlying Try.underlying27]

theorem info_kL8 {K : List UInt8} (h : K.length = 32) : (Try.prog.info? 27).map (·.size) = some (by8 K).length := by rw [by8_length, h]; exact info_arr32
theorem results_cell2T {P : Program} {fn : Func} {p t2 : Tmp} {ty : TypeId} (h : fn.results = #[.cell p ty, .tmp t2]) (tmps : Array Value) (w : World) (g : Nat) (t : TypeId) (cs : Array Value) (fr : Nat × Nat) (d : TypeDesc)
    (hp : tmps.getD p undef = .pointer (some ⟨g, 0, none⟩)) (hg : w.heap[g]? = some (.cells cs t fr))
    (hu : P.underlying ty = some d) (hd : (match d with | .struct _ | .array _ _ => true | _ => false) = true) (hi : (P.info? ty).map (·.size) = some cs.size) :
    (results fn tmps).run P w = .ok (.tuple #[.agg cs, tmps.getD t2 undef]) w := by
  have hp' : tmps[p]?.getD undef = .pointer (some ⟨g, 0, none⟩) := by simpa using hp
  simp [results, h, hp', asAddr, run_loadVar_row w g t ty cs fr d hg hu hd hi]
theorem own_rangeK {w : World} {base e n cap : Nat} {g : Nat} {X : List UInt8} (h : w.ownsRow base e 1 (.slice (some ⟨g, 0, none⟩) n cap) n (by8 X)) : w.rangeAt g 0 (by8 X) := fun j v hv => by
  have := h.cells (g := g) rfl j v hv
  rw [WideShapes.add_plain] at this
  exact this

set_option maxRecDepth 100000 in
set_option maxHeartbeats 2000000 in
theorem make_ok (w : World) (gk : Nat) (kb : List UInt8) (hk : KeyW w gk kb) (hl : kb.length ≤ 1000) (i r x s : Int) (hcl : clOk i r x s) :
    Calls Try.prog 50 #[.pointer (some ⟨gk, 0, none⟩), .agg #[.int .i64 i, .int .i64 r, .int .i64 x, .int .i64 s]] w fun e w' => e = .returned (.tuple #[.agg (tkc i r x s (secB kb i r x s)), .int .i64 0]) ∧ Below w.heap.size w w' := by
  obtain ⟨Kx, hK⟩ : ∃ Kx, secB kb i r x s = Kx := ⟨_, rfl⟩
  have hKl : Kx.length = 32 := by rw [← hK]; rfl
  obtain ⟨B, hB⟩ : ∃ B, clB i r x s = B := ⟨_, rfl⟩
  have hBl : B.length = 9 := by rw [← hB]; exact clB_length _ _ _ _
  have HKD := Lib.hid (show ∀ w' A1 c1 A2 c2, Below w.heap.size w w' → Pts w' A2 [⟨A1, c1, B⟩] → Calls Try.prog 88 #[.pointer (some ⟨gk, 0, none⟩), .string tokenS, .slice A2 1 c2] w' fun e w2 => ∃ gk', e = .returned (.pointer (some ⟨gk', 0, none⟩)) ∧ KeyW w2 gk' Kx ∧ Below w'.heap.size w' w2 from fun w' A1 c1 A2 c2 hb hp => by
    have := kderive_any w' gk kb (hk.keep hb) (by omega) tokenS (by decide) A2 c2 _ hp (by simp) (by intro p hp; obtain rfl : p = ⟨A1, c1, B⟩ := (by simpa using hp); show B.length ≤ _; omega)
    rw [show [(⟨A1, c1, B⟩ : Pt)].map Pt.l = [B] from rfl, ← hB] at this
    rw [← hK]
    exact this)
  have HKB := Lib.hid (show ∀ w' gk', KeyW w' gk' Kx → Calls Try.prog 36 #[.pointer (some ⟨gk', 0, none⟩)] w' fun e w2 => ∃ g' c', e = .returned (.slice (some ⟨g', 0, none⟩) 32 c') ∧ 32 ≤ c' ∧ c' ≤ 9223372036854775807 ∧ Fresh w' w2 5 1 (.slice (some ⟨g', 0, none⟩) 32 c') 32 (by8 Kx) from fun w' gk' h => by
    have := kbytes_any w' gk' Kx h (by rw [hKl]; decide)
    rw [hKl] at this
    refine this.mono ?_
    rintro e w2 ⟨v, rfl, hf⟩
    rcases hf.own.2 with ⟨_, e2⟩ | ⟨g, cap, cur, e1, _, _, h3, h4, _⟩
    · cases e2
    · subst e1
      exact ⟨g, cap, rfl, h3, by unfold maxLen at h4; omega, hf⟩)
  have HCB := Lib.hid (show ∀ w', Calls Try.prog 56 #[.agg #[.int .i64 i, .int .i64 r, .int .i64 x, .int .i64 s]] w' (clBPost i r x s w') from fun w' => clbytes_ok i r x s w' hcl)
  have KL := Lib.hid hKl
  have HBE := Lib.hid hB
  have HBL := Lib.hid hBl
  have HBT := Lib.hid (show ∀ w, (Instr.build 78 #[(0, .agg #[.int .i64 i, .int .i64 r, .int .i64 x, .int .i64 s]), (1, .agg (by8 Kx).toArray)]).run Try.prog w = .ok (.agg (tkc i r x s Kx)) w from fun w => build_tok hKl i r x s w)
  rw [hK]
  have m1 := ((Mst.start w).new 30 #[.int .i64 i, .int .i64 r, .int .i64 x, .int .i64 s]).new 78 Y36
  rw [show (w.alloc (.cells #[.int .i64 i, .int .i64 r, .int .i64 x, .int .i64 s] 30)).heap.size = w.heap.size + 1 by simp] at m1
  have M1 := Lib.hid m1
  have HCL := Lib.hid (show ∀ w' cs ow, Mst w w' [(w.heap.size + 1, 78, cs), (w.heap.size, 30, #[.int .i64 i, .int .i64 r, .int .i64 x, .int .i64 s])] ow → w'.cell? ⟨w.heap.size, 0, none⟩ = some (.int .i64 i) ∧ w'.cell? ⟨w.heap.size, 1, none⟩ = some (.int .i64 r) ∧ w'.cell? ⟨w.heap.size, 2, none⟩ = some (.int .i64 x) ∧ w'.cell? ⟨w.heap.size, 3, none⟩ = some (.int .i64 s) from
    fun w' cs ow h => ⟨(h.blk [_]).cell 0, (h.blk [_]).cell 1, (h.blk [_]).cell 2, (h.blk [_]).cell 3⟩)
  clear hk hK hKl hB hBl hcl m1
  go_enter Try.func50, Try.ntmps50
  go_wp2_with fail
  refine (HCB.out _).mono ?_
  rintro e w1 ⟨v, rfl, hf⟩
  obtain ⟨A1, c1, rfl, -, -, hc1, -⟩ := own_form hf.own
  rw [HBE.out] at hf
  have Mq := Lib.hid (M1.out.addr hf).drew
  have K0 := Lib.hid (HCL.out _ _ _ Mq.out)
  clear hf hc1 M1
  go_upto_region 6 with fail
  refine wp_region_held_drew (S := fun w' => w'.cell? ⟨w.heap.size, 0, none⟩ = some (.int .i64 i) ∧ w'.cell? ⟨w.heap.size, 1, none⟩ = some (.int .i64 r) ∧ w'.cell? ⟨w.heap.size, 2, none⟩ = some (.int .i64 x) ∧ w'.cell? ⟨w.heap.size, 3, none⟩ = some (.int .i64 s)) (by kernel_rfl) ?_ (fun hHeld => ?_)
  · exact K0.out
  generalize World.drew w1 = w7 at Mq hHeld ⊢
  refine wpAnyH_take (i := 0) (v := ?_) rfl (by kernel_rfl) (by kernel_rfl) (by kernel_rfl) (fun _ _ _ h => h) (Or.inl ⟨by rfl, ?_⟩) (by assumption) ?_
  rotate_left
  · intro w hSw; (try dsimp only at hSw); go_split_ands; go_simp; with_reducible rfl
  change wpAnyH _ _ _ _ _ _ _ (Act.put _ (some 20) _) _
  simp only [Act.put, List.setIfInBounds_toArray, List.set_cons_zero, List.set_cons_succ, Array.toArray_toList]
  refine wpAnyH_take (i := 1) (v := ?_) rfl (by kernel_rfl) (by kernel_rfl) (by kernel_rfl) (fun _ _ _ h => h) (Or.inl ⟨by rfl, ?_⟩) (by assumption) ?_
  rotate_left
  · intro w hSw; (try dsimp only at hSw); go_split_ands; go_simp; with_reducible rfl
  change wpAnyH _ _ _ _ _ _ _ (Act.put _ (some 21) _) _
  simp only [Act.put, List.setIfInBounds_toArray, List.set_cons_zero, List.set_cons_succ, Array.toArray_toList]
  refine wpAnyH_take (i := 2) (v := ?_) rfl (by kernel_rfl) (by kernel_rfl) (by kernel_rfl) (fun _ _ _ h => h) (Or.inl ⟨by rfl, ?_⟩) (by assumption) ?_
  rotate_left
  · intro w hSw; (try dsimp only at hSw); go_split_ands; go_simp; with_reducible rfl
  change wpAnyH _ _ _ _ _ _ _ (Act.put _ (some 22) _) _
  simp only [Act.put, List.setIfInBounds_toArray, List.set_cons_zero, List.set_cons_succ, Array.toArray_toList]
  refine wpAnyH_ready (rs := [3]) (by kernel_rfl) (by simp) ?_
  refine (AllReadyH.cons rfl (fun K hK => ?_) AllReadyH.nil)
  go_simp; generalize hwq : World.alloc _ _ = wq; obtain ⟨g20, y20, hg20, mq, hp⟩ := Mq.out.ptsX [⟨A1, c1, B⟩] (by intro q hq; obtain rfl : q = ⟨A1, c1, B⟩ := (by simpa using hq); show Src _ _ _ 1 A1 B.length (by8 B); rw [HBL.out]; exact Mq.out.rowSrc (List.mem_cons_self ..)) (by simp only [List.map_cons, List.map_nil, Pt.v, HBL.out]) (by simp) hwq; rw [hg20]; have Mq := Lib.hid mq; have HP := Lib.hid hp; clear hwq hg20 mq hp
  refine hK.out _ _ (by exact HCL.out _ _ _ Mq.out) (fun hHeld => ?_)
  clear hK K
  refine wpAnyH_ready (rs := [4]) (by kernel_rfl) (by simp) ?_
  refine (AllReadyH.cons rfl (fun K hK => ?_) AllReadyH.nil)
  go_simp
  (with_reducible refine (HKD.out _ _ _ _ _ Mq.out.bel HP.out).mono ?_); rintro e wq ⟨gk', rfl, hkw, hb⟩; have Mq := Lib.hid (Mq.out.below hb); have HKW := Lib.hid hkw; clear hkw hb
  go_wp2_with fail
  refine hK.out _ _ (by exact HCL.out _ _ _ Mq.out) (fun hHeld => ?_)
  clear hK K
  refine wpAnyH_ready (rs := [5]) (by kernel_rfl) (by simp) ?_
  refine (AllReadyH.cons rfl (fun K hK => ?_) AllReadyH.nil)
  go_simp
  (with_reducible refine (HKB.out _ _ HKW.out).mono ?_); rintro e wq ⟨g', c', rfl, hc1, hc2, hf⟩; have Mq := Lib.hid (Mq.out.addr hf); have R32 := Lib.hid (own_rangeK hf.own); have hAA := arrayAt32; clear hf
  go_wp2_with fail
  refine hK.out _ _ (by exact HCL.out _ _ _ Mq.out) (fun hHeld => ?_)
  clear hK K
  refine wpAnyH_take (i := 6) (v := ?_) rfl (by kernel_rfl) (by kernel_rfl) (by kernel_rfl) (fun _ _ _ h => h) (Or.inl ⟨by rfl, ?_⟩) (by assumption) ?_
  rotate_left
  · intro w hSw; (try dsimp only at hSw); go_split_ands; go_simp; with_reducible rfl
  change wpAnyH _ _ _ _ _ _ _ (Act.put _ (some 26) _) _
  simp only [Act.put, List.setIfInBounds_toArray, List.set_cons_zero, List.set_cons_succ, Array.toArray_toList]
  refine wpAnyH_ready (rs := [7]) (by kernel_rfl) (by simp) ?_
  refine (AllReadyH.cons rfl (fun K hK => ?_) AllReadyH.nil)
  refine step_load_mid rfl _ _ rfl g' 0 rfl (by8 Kx) _ R32.out Try.underlying27 rfl (info_kL8 KL.out) ?_
  refine hK.out _ _ (by exact HCL.out _ _ _ Mq.out) (fun hHeld => ?_)
  clear hK K
  (try (change wpAnyH _ _ _ _ _ _ _ (Act.put _ (some 27) _) _; simp only [Act.put, List.setIfInBounds_toArray, List.set_cons_zero, List.set_cons_succ, Array.toArray_toList]))
  refine wpAnyH_ready (rs := [8]) (by kernel_rfl) (by simp) ?_
  refine (AllReadyH.cons rfl (fun K hK => ?_) AllReadyH.nil)
  refine step_build rfl _ _ rfl [(0, .agg #[.int .i64 i, .int .i64 r, .int .i64 x, .int .i64 s]), (1, .agg (by8 Kx).toArray)] rfl (.agg (tkc i r x s Kx)) (HBT.out _) ?_
  refine hK.out _ _ (by exact HCL.out _ _ _ Mq.out) (fun hHeld => ?_)
  clear hK K
  (try (change wpAnyH _ _ _ _ _ _ _ (Act.put _ (some 28) _) _; simp only [Act.put, List.setIfInBounds_toArray, List.set_cons_zero, List.set_cons_succ, Array.toArray_toList]))
  refine wpAnyH_ready (rs := [9]) (by kernel_rfl) (by simp) ?_
  refine (AllReadyH.cons rfl (fun K hK => ?_) AllReadyH.nil)
  refine step_store_row rfl _ _ _ rfl (w.heap.size + 1) (tkc i r x s Kx) rfl rfl 78 _ (Mq.out.blk []) (info_tok KL.out) (y36_k KL.out) (tkc_one _ _ _ _ _) ?_; have Mq := Lib.hid (Mst.setRow (bl := []) [] Mq.out (tkc i r x s Kx))
  refine hK.out _ _ (by exact HCL.out _ _ _ Mq.out) (fun hHeld => ?_)
  clear hK K
  refine wpAnyH_take (i := 10) (v := ?_) rfl (by kernel_rfl) (by kernel_rfl) (by kernel_rfl) (fun _ _ _ h => h) (Or.inl ⟨by rfl, ?_⟩) (by assumption) ?_
  rotate_left
  · intro w hSw; (try dsimp only at hSw); go_split_ands; go_simp; with_reducible rfl
  change wpAnyH _ _ _ _ _ _ _ (Act.put _ (some 5) _) _
  simp only [Act.put, List.setIfInBounds_toArray, List.set_cons_zero, List.set_cons_succ, Array.toArray_toList]
  refine wpAnyH_done (by kernel_rfl) ?_ _
  go_wp2
  exact bodyPost_ret (results_cell2T rfl _ _ (w.heap.size + 1) 78 _ (0, 0) _ rfl (Mq.out.blk []) Try.underlying78 rfl (info_tok KL.out)) rfl ⟨rfl, Mq.out.bel⟩
set_option maxRecDepth 100000 in
set_option maxHeartbeats 1000000 in
theorem make_bad (w : World) (gk : Nat) (i r x s : Int) (hcl : ¬ clOk i r x s) :
    Calls Try.prog 50 #[.pointer (some ⟨gk, 0, none⟩), .agg #[.int .i64 i, .int .i64 r, .int .i64 x, .int .i64 s]] w fun e w' => e = .returned (.tuple #[.agg Y36, .int .i64 10]) ∧ Below w.heap.size w w' := by
  have HCB := Lib.hid (fun w' => clbytes_bad i r x s w' hcl)
  have m1 := ((Mst.start w).new 30 #[.int .i64 i, .int .i64 r, .int .i64 x, .int .i64 s]).new 78 Y36
  rw [show (w.alloc (.cells #[.int .i64 i, .int .i64 r, .int .i64 x, .int .i64 s] 30)).heap.size = w.heap.size + 1 by simp] at m1
  have M1 := Lib.hid m1
  clear hcl m1
  go_enter Try.func50, Try.ntmps50
  go_wp2_with fail
  refine (HCB.out _).mono ?_
  rintro e w1 ⟨rfl, hb⟩
  have Mq := Lib.hid (M1.out.below hb)
  clear hb M1
  go_wp2_with (first | refine wpList_buildG rfl _ rfl (.agg Y36) (build_tok0 _) ?_ | refine wpList_store_row rfl _ _ _ rfl (w.heap.size + 1) Y36 rfl rfl 78 _ (Mq.out.blk []) info_y36 rfl y36_one ?_)
  exact bodyPost_ret (results_cell2T (cs := Y36) rfl _ _ (w.heap.size + 1) 78 (0, 0) _ rfl (setRow_heap _ _ _ _ _ _ (Mq.out.blk [])) Try.underlying78 rfl info_arr36) rfl (And.intro rfl (Mst.setRow (bl := []) [] Mq.out Y36).bel)
set_option maxRecDepth 100000 in
set_option maxHeartbeats 1000000 in
theorem make_nil (w : World) (i r x s : Int) :
    Calls Try.prog 50 #[.pointer none, .agg #[.int .i64 i, .int .i64 r, .int .i64 x, .int .i64 s]] w fun e w' => e = .returned (.tuple #[.agg Y36, .int .i64 1]) ∧ Below w.heap.size w w' := by
  have m1 := ((Mst.start w).new 30 #[.int .i64 i, .int .i64 r, .int .i64 x, .int .i64 s]).new 78 Y36
  rw [show (w.alloc (.cells #[.int .i64 i, .int .i64 r, .int .i64 x, .int .i64 s] 30)).heap.size = w.heap.size + 1 by simp] at m1
  have Mq := Lib.hid m1
  clear m1
  go_enter Try.func50, Try.ntmps50
  go_upto_region 2 with fail
  generalize hw0 : World.alloc (World.alloc _ _) _ = w0
  have Mq := Lib.hid (show Mst w w0 _ _ from hw0 ▸ Mq.out)
  clear hw0
  go_wp2_with (first | refine wpList_buildG rfl _ rfl (.agg Y36) (build_tok0 _) ?_ | refine wpList_store_row rfl _ _ _ rfl (w.heap.size + 1) Y36 rfl rfl 78 _ (Mq.out.blk []) info_y36 rfl y36_one ?_)
  exact bodyPost_ret (results_cell2T (cs := Y36) rfl _ _ (w.heap.size + 1) 78 (0, 0) _ rfl (setRow_heap _ _ _ _ _ _ (Mq.out.blk [])) Try.underlying78 rfl info_arr36) rfl (And.intro rfl (Mst.setRow (bl := []) [] Mq.out Y36).bel)

set_option maxRecDepth 100000 in
set_option maxHeartbeats 1000000 in
theorem holds_ok (w : World) (gk : Nat) (kb : List UInt8) (hk : KeyW w gk kb) (hl : kb.length ≤ 1000) (i r x s : Int) (Kx : List UInt8) (hKl : Kx.length = 32) (hcl : clOk i r x s) :
    Calls Try.prog 40 #[.pointer (some ⟨gk, 0, none⟩), .agg (tkc i r x s Kx)] w fun e w' => e = .returned (.bool (decide (secB kb i r x s = Kx))) ∧ Below w.heap.size w w' := by
  have HMK := Lib.hid (fun w' (hb : Below w.heap.size w w') => make_ok w' gk kb (hk.keep hb) hl i r x s hcl)
  obtain ⟨S, hS⟩ : ∃ S, secB kb i r x s = S := ⟨_, rfl⟩
  have hSl : S.length = 32 := by rw [← hS]; rfl
  rw [hS] at HMK ⊢
  have HEQ := Lib.hid (show ∀ w' A1 A2, RB w' w'.heap.size A1 S → RB w' w'.heap.size A2 Kx → Calls Try.prog 78 #[.slice A1 32 32, .slice A2 32 32] w' fun e w2 => e = .returned (.bool (decide (S = Kx))) ∧ Below w'.heap.size w' w2 from fun w' A1 A2 h1 h2 => by
    have := equal2_any A1 A2 32 32 S Kx w' h1 h2 (by unfold maxLen; omega)
    rw [hSl, hKl] at this
    exact this)
  obtain ⟨D, hD⟩ : ∃ D, decide (S = Kx) = D := ⟨_, rfl⟩
  rw [hD] at HEQ ⊢
  have KL := Lib.hid hKl
  have SL := Lib.hid hSl
  have M1 := Lib.hid ((Mst.start w).new 78 (tkc i r x s Kx))
  obtain ⟨k0, k1, k2, k3⟩ := tkc_cells (M1.out.blk [])
  clear hk hS hSl hKl hcl hD
  go_enter Try.func40, Try.ntmps40
  go_wp2_with fail
  refine (HMK.out _ M1.out.bel).mono ?_
  rintro e w1 ⟨rfl, hb⟩
  have Mq := Lib.hid (M1.out.below hb)
  clear hb k0 k1 k2 k3 M1
  go_wp2_with (first | refine wpList_store_row rfl _ _ _ rfl w1.heap.size (tkc i r x s S) rfl rfl 78 _ (Bk.mk_ _ _ _) (info_tok SL.out) (y36_k SL.out) (tkc_one _ _ _ _ _) ?_)
  have Mq := Lib.hid (Mst.setRow (bl := []) [] (Mq.out.new 78 Y36) (tkc i r x s S)).drew
  go_upto_region 2 with fail
  refine wp_region_held_drew (S := fun _ => True) (by kernel_rfl) ?_ (fun hHeld => ?_)
  · trivial
  generalize World.drew _ = w2 at Mq ⊢
  refine wpAnyH_take (i := 0) (v := ?_) rfl (by kernel_rfl) (by kernel_rfl) (by kernel_rfl) (fun _ _ _ h => h) (Or.inl ⟨by rfl, ?_⟩) (by assumption) ?_
  rotate_left
  · intro w hSw; (try dsimp only at hSw); go_split_ands; go_simp; with_reducible rfl
  change wpAnyH _ _ _ _ _ _ _ (Act.put _ (some 14) _) _
  simp only [Act.put, List.setIfInBounds_toArray, List.set_cons_zero, List.set_cons_succ, Array.toArray_toList]
  refine wpAnyH_take (i := 1) (v := ?_) rfl (by kernel_rfl) (by kernel_rfl) (by kernel_rfl) (fun _ _ _ h => h) (Or.inl ⟨by rfl, ?_⟩) (by assumption) ?_
  rotate_left
  · intro w hSw; (try dsimp only at hSw); go_split_ands; go_simp; with_reducible rfl
  change wpAnyH _ _ _ _ _ _ _ (Act.put _ (some 15) _) _
  simp only [Act.put, List.setIfInBounds_toArray, List.set_cons_zero, List.set_cons_succ, Array.toArray_toList]
  refine wpAnyH_take (i := 2) (v := ?_) rfl (by kernel_rfl) (by kernel_rfl) (by kernel_rfl) (fun _ _ _ h => h) (Or.inl ⟨by rfl, ?_⟩) (by assumption) ?_
  rotate_left
  · intro w hSw; (try dsimp only at hSw); go_split_ands; go_simp; with_reducible rfl
  change wpAnyH _ _ _ _ _ _ _ (Act.put _ (some 16) _) _
  simp only [Act.put, List.setIfInBounds_toArray, List.set_cons_zero, List.set_cons_succ, Array.toArray_toList]
  refine wpAnyH_take (i := 3) (v := ?_) rfl (by kernel_rfl) (by kernel_rfl) (by kernel_rfl) (fun _ _ _ h => h) (Or.inl ⟨by rfl, ?_⟩) (by assumption) ?_
  rotate_left
  · intro w hSw; (try dsimp only at hSw); go_split_ands; go_simp; with_reducible rfl
  change wpAnyH _ _ _ _ _ _ _ (Act.put _ (some 17) _) _
  simp only [Act.put, List.setIfInBounds_toArray, List.set_cons_zero, List.set_cons_succ, Array.toArray_toList]
  refine wpAnyH_take (i := 4) (v := ?_) rfl (by kernel_rfl) (by kernel_rfl) (by kernel_rfl) (fun _ _ _ h => h) (Or.inl ⟨by rfl, ?_⟩) (by assumption) ?_
  rotate_left
  · intro w hSw; (try dsimp only at hSw); go_split_ands; go_simp; with_reducible rfl
  change wpAnyH _ _ _ _ _ _ _ (Act.put _ (some 18) _) _
  simp only [Act.put, List.setIfInBounds_toArray, List.set_cons_zero, List.set_cons_succ, Array.toArray_toList]
  refine wpAnyH_take (i := 5) (v := ?_) rfl (by kernel_rfl) (by kernel_rfl) (by kernel_rfl) (fun _ _ _ h => h) (Or.inl ⟨by rfl, ?_⟩) (by assumption) ?_
  rotate_left
  · intro w hSw; (try dsimp only at hSw); go_split_ands; go_simp; with_reducible rfl
  change wpAnyH _ _ _ _ _ _ _ (Act.put _ (some 19) _) _
  simp only [Act.put, List.setIfInBounds_toArray, List.set_cons_zero, List.set_cons_succ, Array.toArray_toList]
  refine wpAnyH_take (i := 6) (v := ?_) rfl (by kernel_rfl) (by kernel_rfl) (by kernel_rfl) (fun _ _ _ h => h) (Or.inl ⟨by rfl, ?_⟩) (by assumption) ?_
  rotate_left
  · intro w hSw; (try dsimp only at hSw); go_split_ands; go_simp; with_reducible rfl
  change wpAnyH _ _ _ _ _ _ _ (Act.put _ (some 20) _) _
  simp only [Act.put, List.setIfInBounds_toArray, List.set_cons_zero, List.set_cons_succ, Array.toArray_toList]
  refine wpAnyH_ready (rs := [7]) (by kernel_rfl) (by simp) ?_
  refine (AllReadyH.cons rfl (fun K hK => ?_) AllReadyH.nil)
  go_simp
  (with_reducible refine (HEQ.out _ _ _ (tkc_rb (Mq.out.blk [])) (tkc_rb (Mq.out.blk [_]))).mono ?_); rintro e wq ⟨rfl, hb⟩; have Mq := Lib.hid (Mq.out.below hb); clear hb
  go_wp2_with fail
  refine hK.out _ _ (by trivial) (fun hHeld => ?_)
  clear hK K
  refine wpAnyH_take (i := 8) (v := ?_) rfl (by kernel_rfl) (by kernel_rfl) (by kernel_rfl) (fun _ _ _ h => h) (Or.inl ⟨by rfl, ?_⟩) (by assumption) ?_
  rotate_left
  · intro w hSw; (try dsimp only at hSw); go_split_ands; go_simp; with_reducible rfl
  change wpAnyH _ _ _ _ _ _ _ (Act.put _ (some 22) _) _
  simp only [Act.put, List.setIfInBounds_toArray, List.set_cons_zero, List.set_cons_succ, Array.toArray_toList]
  refine wpAnyH_take (i := 9) (v := ?_) rfl (by kernel_rfl) (by kernel_rfl) (by kernel_rfl) (fun _ _ _ h => h) (Or.inl ⟨by rfl, ?_⟩) (by assumption) ?_
  rotate_left
  · intro w hSw; (try dsimp only at hSw); go_split_ands; go_simp; with_reducible rfl
  change wpAnyH _ _ _ _ _ _ _ (Act.put _ (some 4) _) _
  simp only [Act.put, List.setIfInBounds_toArray, List.set_cons_zero, List.set_cons_succ, Array.toArray_toList]
  refine wpAnyH_done (by kernel_rfl) ?_ _
  go_wp2
  go_ret
  exact ⟨rfl, Mq.out.bel⟩
end Go.Proofs.Ytghcdffpplimoaa
