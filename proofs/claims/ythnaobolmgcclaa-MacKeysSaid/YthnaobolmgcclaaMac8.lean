/- Contract of the document's Derive. -/
import Derived.Test.YthnaobolmgcclaaMac7
namespace Go.Proofs.Ythnaobolmgcclaa
set_option linter.unusedVariables false
set_option linter.unusedSimpArgs false
open Go.RowKit

/-- '[]byte(s)'. -/
theorem conv_ex (s : ByteArray) : ∃ (C : World → Nat) (ob : World → Obj), (∀ w, (convert 9 26 (.string s)).run Try.prog w = .ok (.slice (some ⟨w.heap.size, 0, none⟩) s.size (C w)) (w.drew.alloc (ob w))) ∧
    ∀ w, ∃ (cs : Array Value) (e : TypeId) (z : Nat × Nat), ob w = .cells cs e z ∧ ∀ (j : Nat) (u : Value), (by8 s.data.toList)[j]? = some u → cs[j]? = some u := by
  refine ⟨fun w => grownCap w s.size 0 5, fun w => .cells (bytesRow s (grownCap w s.size 0 5)) 5 ((bytesRow s (grownCap w s.size 0 5)).size, (bytesRow s (grownCap w s.size 0 5)).size + 1), fun w => ?_, fun w => ⟨_, _, _, rfl, fun j u hu => ?_⟩⟩
  · exact run_bytes_of_string (P := Try.prog) w 9 26 5 s Try.underlying9 Try.underlying26 Try.underlying5
  · have hj : j < s.data.size := by
      have := (List.getElem?_eq_some_iff.1 hu).1
      rw [by8_length, Array.length_toList] at this
      exact this
    rw [bytesRow_at s _ j hj, ← hu, by8_get (b := s.data[j]) (by simp [hj])]
theorem wpList_appGE {P : Program} {w W : World} {bl : List (Nat × TypeId × Array Value)} {ops : Array Oper} {rest : List Oper} {o : Oper} {a : Act} {Q : Exit → Act → World → Prop} (hw : Region.wanted o (yielded ops a.tmps) = true) (s x : Operand) (t : TypeId)
    (ho : o.op = .call { callee := .builtin .append, args := #[s, x], argTypes := #[t, t] })
    (pre : List Ro) {post : List Ro} {e : TypeId} {size n bytes : Nat} {v : Value} {xs : List Value} (hm : Mst W w bl (pre ++ ⟨e, size, v, n, xs⟩ :: post)) (hE : El P t e size bytes) (hs : a.eval s = v)
    (B : Nat) (A : Option Addr) (m c : Nat) (news : List Value) (hx : a.eval x = .slice A m c) (hr : Rd w B size A m news) (h1 : ∀ u ∈ news, u.oneCell' = true)
    (h63 : n + m ≤ maxLen) (hbytes : (n + m) * bytes ≤ 140737488355328)
    (h : ∀ A' c' w' N X, N = n + m → X = xs ++ news → Mst W w' bl (pre ++ ⟨e, size, .slice A' N c', N, X⟩ :: post) → wpList P ops Q rest (a.put o.dst (.slice A' N c')) w') : wpList P ops Q (o :: rest) a w :=
  wpList_appG hw s x t ho pre hm hE hs B A m c news hx hr h1 h63 hbytes fun A' c' w' hm' => h A' c' w' _ _ rfl rfl hm'
theorem Mst.emptyE {W w w2 : World} {bl : Bl} {ow : List Ro} {e : TypeId} (h : Mst W w bl ow) (hw : w.alloc (.cells #[] e) = w2) : Mst W w2 bl (⟨e, 1, .slice (some ⟨w.heap.size, 0, none⟩) 0 0, 0, []⟩ :: ow) := by
  subst hw
  exact h.newrow e 1 0 0 #[] (Nat.le_refl _) (by decide) rfl
theorem SZ.marked {W : World} {rows : List Ro} {gM : Nat} {ob : Obj} {l : List UInt8} (h : ∃ (cs : Array Value) (e : TypeId) (z : Nat × Nat), ob = .cells cs e z ∧ ∀ (j : Nat) (u : Value), (by8 l)[j]? = some u → cs[j]? = some u) : SZ W rows gM ob (some ⟨gM, 0, none⟩) l := .inr ⟨rfl, h⟩
theorem SZ.old {W : World} {rows : List Ro} {gM : Nat} {ob : Obj} {A : Option Addr} {l : List UInt8} (h : RB W W.heap.size A l) : SZ W rows gM ob A l := .inl (Src.old h)
section
variable {W w w2 : World} {bl : Bl} {ow : List Ro} {gM : Nat} {ob : Obj}
theorem Mst.markE (h : Mst W w bl ow) (hw : (w.alloc ob).drew = w2) : Mz W w2 bl ow w.heap.size ob := by
  subst hw
  exact h.mark ob
theorem Mz.newrowE (h : Mz W w bl ow gM ob) {e : TypeId} {v : Value} (hw : w.alloc (.cells #[v] e) = w2) : Mz W w2 bl (⟨e, 1, .slice (some ⟨w.heap.size, 0, none⟩) 1 1, 1, [v]⟩ :: ow) gM ob := by
  subst hw
  exact h.newrow e 1 1 1 #[v] (Nat.le_refl _) (by decide) rfl
theorem step_appZ {P : Program} {ops : Array Oper} {o : Oper} {a : Act} {K : Act → World → Prop} {Q : Exit → Act → World → Prop} {E : Prop} (hgd : o.guard = none) (s x : Operand) (t : TypeId)
    (ho : o.op = .call { callee := .builtin .append, args := #[s, x], argTypes := #[t, t] })
    (pre : List Ro) {post : List Ro} {e : TypeId} {size n bytes : Nat} {v : Value} {xs : List Value} (hm : Mz W w bl (pre ++ ⟨e, size, v, n, xs⟩ :: post) gM ob) (hE : El P t e size bytes) (hs : a.eval s = v)
    (B : Nat) (A : Option Addr) (m c : Nat) (news : List Value) (hx : a.eval x = .slice A m c) (hr : Rd w B size A m news) (h1 : ∀ u ∈ news, u.oneCell' = true)
    (h63 : n + m ≤ maxLen) (hbytes : (n + m) * bytes ≤ 140737488355328)
    (h : ∀ A' c' w' N X, N = n + m → X = xs ++ news → Mz W w' bl (pre ++ ⟨e, size, .slice A' N c', N, X⟩ :: post) gM ob → K (a.put o.dst (.slice A' N c')) w') :
    if Region.wanted o (yielded ops a.tmps) = true then Oper.wp P o a w K Q else E := by
  obtain ⟨ht, ⟨i, z, hi, hz, hsize, hby, hzs⟩, hp⟩ := hE
  refine step_app w hgd s x t ho W.heap.size e i z size bytes ht hi hz hsize hby hzs hp v n xs hs (hm.m.row pre) B A m c news hx hr h1 h63 hbytes hm.m.bel.size fun A' c' w' h2 h3 h4 => h A' c' w' _ _ rfl rfl ⟨hm.m.app pre h3 h2 h4, ?_, hm.lo, hm.nb, ?_⟩
  · exact (h3.block gM hm.lt (fun e2 => hm.nr ⟨e, size, v, n, xs⟩ (by simp) e2.symm)).trans hm.z
  · intro y hy
    rcases List.mem_append.1 hy with hy | hy
    · exact hm.nr y (List.mem_append_left _ hy)
    · rcases List.mem_cons.1 hy with rfl | hy
      · rcases h4 with h5 | h5
        · rw [h5]
          exact hm.nr ⟨e, size, v, n, xs⟩ (by simp)
        · rw [h5]
          have := hm.lt
          intro e2
          injection e2
          omega
      · exact hm.nr y (by simp [hy])
/-- A row of slices beside a marked block, as parts. -/
theorem Mz.pts {v : Value} {qs : List Pt} {n : Nat} {X : List Value} {A : Option Addr} {c : Nat} (h : Mz W w bl (⟨26, 1, .slice A n c, n, X⟩ :: ow) gM ob) (hn : n = qs.length) (hX : X = qs.map Pt.v) (hq : ∀ q ∈ qs, SZ W [] gM ob q.A q.l) : Pts w A qs := by
  subst hn hX
  exact ⟨own_rd (h.m.row []), fun q hm => h.rd (hq q hm) (fun _ h => nomatch h)⟩
end

set_option maxRecDepth 100000 in
set_option maxHeartbeats 2000000 in
theorem refderive_any (KT : Array Value) (hKT : RSum KT) (w : World) (A : Option Addr) (c : Nat) (key : List UInt8) (hr : RB w w.heap.size A key) (hk : key.length ≤ 100000) (s : ByteArray) (hs : s.size ≤ 1000) (A1 : Option Addr) (c1 : Nat) (ps : List Pt) (hp : Pts w A1 ps) (hn : ps.length ≤ 90) (hl : ∀ p ∈ ps, p.l.length ≤ 1000) :
    Calls Try.prog 54 #[.agg KT, .slice A key.length c, .string s, .slice A1 ps.length c1] w fun e w' => e = .returned (.agg (b8a (macT key (frameB (s.data.toList :: ps.map Pt.l))))) ∧ Below w.heap.size w w' := by
  obtain ⟨K2, hK2⟩ : ∃ K, macT key (frameB (s.data.toList :: ps.map Pt.l)) = K := ⟨_, rfl⟩
  have hKl2 : K2.length = 32 := by rw [← hK2]; rfl
  rw [hK2]
  obtain ⟨C, ob, hcv, hob⟩ := conv_ex s
  have HOB := Lib.hid hob
  have HKT := Lib.hid hKT
  have KL2 := Lib.hid hKl2
  have hfl : (frameB (s.data.toList :: ps.map Pt.l)).length ≤ 110000 := by
    have := frameB_len (s.data.toList :: ps.map Pt.l) 1000 (by
      intro l hl2
      rcases List.mem_cons.1 hl2 with rfl | hl2
      · simpa using hs
      · obtain ⟨p, hp, rfl⟩ := List.mem_map.1 hl2
        exact hl p hp)
    simp only [List.length_cons, List.length_map] at this
    have : (ps.length + 1) * (4 + 1000) ≤ 101 * 1004 := Nat.mul_le_mul (by omega) (by omega)
    omega
  obtain ⟨FB, hFB⟩ : ∃ F, frameB (s.data.toList :: ps.map Pt.l) = F := ⟨_, rfl⟩
  rw [hFB] at hfl hK2
  have HT := Lib.hid (show ∀ w' A' c' N, Below w.heap.size w w' → N = FB.length → Rd w' w'.heap.size 1 A' N (by8 FB) → Calls Try.prog 50 #[.agg KT, .slice A key.length c, .slice A' N c'] w' fun e w2 => e = .returned (.agg (b8a K2)) ∧ Below w'.heap.size w' w2 from fun w' A' c' N hb hN h => by
    subst hN
    have := reftag_any KT hKT w' A c key ((hr.below hb).more hb.size) hk A' c' FB h (by omega)
    rw [hK2] at this
    exact this)
  have HF := Lib.hid (show ∀ w' A' c' g C N, N = ps.length + 1 → Pts w' A' (⟨some ⟨g, 0, none⟩, C, s.data.toList⟩ :: ps) → Calls Try.prog 55 #[.slice A' N c'] w' fun e w2 => ∃ A2 c2, e = .returned (.slice A2 FB.length c2) ∧ Fresh w' w2 5 1 (.slice A2 FB.length c2) FB.length (by8 FB) from fun w' A' c' g C N hN h => by
    subst hN
    have := refframe_any w' A' c' _ h (by simp; omega) (by
      intro p hp
      rcases List.mem_cons.1 hp with rfl | hp
      · simpa using hs
      · exact hl p hp)
    rw [show List.map Pt.l ((⟨some ⟨g, 0, none⟩, C, s.data.toList⟩ : Pt) :: ps) = s.data.toList :: ps.map Pt.l from rfl, hFB] at this
    exact this)
  have HP := Lib.hid hp
  have HPO := Lib.hid (show ∀ q ∈ ps, RB w w.heap.size q.A q.l from hp.2)
  have m1 := ((Mst.start w).new 60 KT).new 54 Y32
  rw [show (w.alloc (.cells KT 60)).heap.size = w.heap.size + 1 by simp] at m1
  have M1 := Lib.hid m1
  have hu : ∃ d, Try.prog.underlying 60 = some d ∧ d.isRow = true := ⟨_, Try.underlying60, rfl⟩
  obtain ⟨d, hu, hd⟩ := hu
  have hki := hKT.infL
  obtain ⟨n, hN⟩ : ∃ n, ps.length = n := ⟨_, rfl⟩
  have HN := Lib.hid hN
  rw [hN] at hn ⊢
  clear hr hp hK2 hKl2 hl hfl m1 hN hob hKT hFB
  go_enter Try.func54, Try.ntmps54
  go_wp2_with fail
  generalize hw0 : World.alloc (World.alloc _ _) _ = w0
  have Mq := Lib.hid (show Mst w w0.drew [(w.heap.size + 1, 54, Y32), (w.heap.size, 60, KT)] [] by rw [← hw0]; exact M1.out.drew)
  have k0 := (Mq.out.blk [_]).rangeL
  clear hw0
  refine wp_region_held_drew (S := fun w' => w'.rangeAt w.heap.size 0 KT.toList) (by kernel_rfl) ?_ (fun hHeld => ?_)
  · exact k0
  generalize World.drew w0 = w1 at Mq hHeld ⊢
  refine wpAnyH_take (i := 0) rfl (by kernel_rfl) (by kernel_rfl) (by kernel_rfl) (fun _ _ _ h => h) (yieldsIf_load_mid (by rfl) _ _ rfl _ _ rfl _ _ (fun w hw => hw) hu hd hki) (by assumption) ?_
  change wpAnyH _ _ _ _ _ _ _ (Act.put _ (some 9) _) _
  simp only [Act.put, List.setIfInBounds_toArray, List.set_cons_zero, List.set_cons_succ, Array.toArray_toList]
  refine wpAnyH_take (i := 1) (v := ?_) rfl (by kernel_rfl) (by kernel_rfl) (by kernel_rfl) (fun _ _ _ h => h) (Or.inl ⟨by rfl, ?_⟩) (by assumption) ?_
  rotate_left
  · intro w hSw; (try dsimp only at hSw); go_split_ands; go_simp; with_reducible rfl
  change wpAnyH _ _ _ _ _ _ _ (Act.put _ (some 10) _) _
  simp only [Act.put, List.setIfInBounds_toArray, List.set_cons_zero, List.set_cons_succ, Array.toArray_toList]
  refine wpAnyH_take (i := 2) (v := ?_) rfl (by kernel_rfl) (by kernel_rfl) (by kernel_rfl) (fun _ _ _ h => h) (Or.inl ⟨by rfl, ?_⟩) (by assumption) ?_
  rotate_left
  · intro w hSw; (try dsimp only at hSw); go_split_ands; go_simp; with_reducible rfl
  change wpAnyH _ _ _ _ _ _ _ (Act.put _ (some 11) _) _
  simp only [Act.put, List.setIfInBounds_toArray, List.set_cons_zero, List.set_cons_succ, Array.toArray_toList]
  refine wpAnyH_take (i := 5) (v := ?_) rfl (by kernel_rfl) (by kernel_rfl) (by kernel_rfl) (fun _ _ _ h => h) (Or.inl ⟨by rfl, ?_⟩) (by assumption) ?_
  rotate_left
  · intro w hSw; (try dsimp only at hSw); go_split_ands; go_simp; with_reducible rfl
  change wpAnyH _ _ _ _ _ _ _ (Act.put _ (some 14) _) _
  simp only [Act.put, List.setIfInBounds_toArray, List.set_cons_zero, List.set_cons_succ, Array.toArray_toList]
  refine wpAnyH_ready (rs := [3]) (by kernel_rfl) (by simp) ?_
  refine (AllReadyH.cons rfl (fun K hK => ?_) AllReadyH.nil)
  go_simp; generalize hwq : World.drew (World.alloc _ _) = wq; have Mq := Lib.hid (Mq.out.markE hwq); clear hwq
  refine hK.out _ _ (by first | exact (Mq.out.m.blk [_]).rangeL | exact (Mq.out.blk [_]).rangeL) (fun hHeld => ?_)
  clear hK K
  refine wpAnyH_ready (rs := [4]) (by kernel_rfl) (by simp) ?_
  refine (AllReadyH.cons rfl (fun K hK => ?_) AllReadyH.nil)
  go_simp; generalize hwq : World.alloc _ _ = wq; have Mq := Lib.hid (Mq.out.newrowE hwq); clear hwq
  refine hK.out _ _ (by first | exact (Mq.out.m.blk [_]).rangeL | exact (Mq.out.blk [_]).rangeL) (fun hHeld => ?_)
  clear hK K
  refine wpAnyH_ready (rs := [6]) (by kernel_rfl) (by simp) ?_
  refine (AllReadyH.cons rfl (fun K hK => ?_) AllReadyH.nil)
  refine step_appZ rfl _ _ 51 rfl [] Mq.out el_bs rfl _ A1 n c1 (ps.map Pt.v) rfl (Mq.out.m.src (Src.old (by have := HP.out.1; rwa [HN.out] at this))) (by simp [Pt.v, Value.oneCell']) (by unfold maxLen; omega) (by omega) ?_; intro A5 c5 wq N5 X5 hn5 hx5 mq; have Mq := Lib.hid mq; have HN5 := Lib.hid hn5; have HX5 := Lib.hid hx5; clear mq hn5 hx5
  refine hK.out _ _ (by first | exact (Mq.out.m.blk [_]).rangeL | exact (Mq.out.blk [_]).rangeL) (fun hHeld => ?_)
  clear hK K
  refine wpAnyH_ready (rs := [7]) (by kernel_rfl) (by simp) ?_
  refine (AllReadyH.cons rfl (fun K hK => ?_) AllReadyH.nil)
  go_simp
  with_reducible refine (HF.out _ _ _ w1.heap.size (C w1) _ (by rw [HN5.out, HN.out]; omega) (Mq.out.pts (v := undef) (by rw [HN5.out]; simp; rw [HN.out]; omega) (by rw [HX5.out]; simp [Pt.v]) (by intro q hq; rcases List.mem_cons.1 hq with rfl | hq; exact SZ.marked (HOB.out w1); exact SZ.old (HPO.out q hq)))).mono ?_; rintro e wq ⟨A7, c7, rfl, hf⟩; have Mq := Lib.hid (Mq.out.m.addr hf); clear hf
  go_wp2_with fail
  refine hK.out _ _ (by first | exact (Mq.out.m.blk [_]).rangeL | exact (Mq.out.blk [_]).rangeL) (fun hHeld => ?_)
  clear hK K
  refine wpAnyH_ready (rs := [8]) (by kernel_rfl) (by simp) ?_
  refine (AllReadyH.cons rfl (fun K hK => ?_) AllReadyH.nil)
  go_simp
  with_reducible refine (HT.out _ _ _ _ Mq.out.bel rfl (Mq.out.src (Mq.out.rowSrc (List.mem_cons_self ..)))).mono ?_; rintro e wq ⟨rfl, hb⟩; have Mq := Lib.hid (Mq.out.below hb); clear hb
  go_wp2_with fail
  refine hK.out _ _ (by first | exact (Mq.out.m.blk [_]).rangeL | exact (Mq.out.blk [_]).rangeL) (fun hHeld => ?_)
  clear hK K
  refine wpAnyH_ready (rs := [9]) (by kernel_rfl) (by simp) ?_
  refine (AllReadyH.cons rfl (fun K hK => ?_) AllReadyH.nil)
  refine step_store_row rfl _ _ _ rfl (w.heap.size + 1) (b8a K2) rfl rfl 54 _ (Mq.out.blk []) (info_k KL2.out) (y32_k KL2.out) (b8a_one K2) ?_; have Mq := Lib.hid (Mst.setRow (bl := []) [] Mq.out (b8a K2))
  refine hK.out _ _ (by first | exact (Mq.out.m.blk [_]).rangeL | exact (Mq.out.blk [_]).rangeL) (fun hHeld => ?_)
  clear hK K
  refine wpAnyH_done (by kernel_rfl) ?_ _
  go_wp2_with fail
  exact bodyPost_ret (results_cell_row rfl _ _ (w.heap.size + 1) 54 _ (0, 0) _ rfl (Mq.out.blk []) Try.underlying54 rfl (info_k KL2.out)) rfl ⟨rfl, Mq.out.bel⟩
end Go.Proofs.Ythnaobolmgcclaa
