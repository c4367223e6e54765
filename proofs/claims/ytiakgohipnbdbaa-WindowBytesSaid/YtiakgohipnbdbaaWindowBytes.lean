/-
  vigillaw12.WindowBytes returns true, whatever it is called with. Conditions: none but that the slice can be read.
-/
import Derived.Test.YtiakgohipnbdbaaWinQ
import Derived.Test.YtiakgohipnbdbaaRc4
import Derived.Test.YtiakgohipnbdbaaWinK
import Derived.Test.YtiakgohipnbdbaaRef12
import Derived.Test.YtiakgohipnbdbaaEq2
import Derived.Deep.RegionHeld3
import Derived.Deep.DeepCutAuto
import Derived.Lib.MinMax
namespace Go.Proofs.Ytiakgohipnbdbaa
set_option linter.unusedVariables false
set_option linter.unusedSimpArgs false
open Go.RowKit

theorem cutW_n (N M : Nat) : ∃ n : Nat, (n : Int) = min (N : Int) M ∧ n ≤ N ∧ n ≤ M := ⟨min N M, by omega, by omega, by omega⟩
theorem RB.cutW {w : World} {B : Nat} {A : Option Addr} {l : List UInt8} (h : RB w B A l) (N : Nat) : RB w B A (l.take N) := by
  refine ⟨by simp [by8], fun hn => ?_⟩
  obtain ⟨b, o, e, hb, hc⟩ := h.2 (by rw [List.length_take] at hn; omega)
  refine ⟨b, o, e, hb, fun j u hu => hc j u ?_⟩
  simp only [by8, List.map_take] at hu
  rw [List.getElem?_take] at hu
  split at hu
  · exact hu
  · cases hu

theorem getD_atW {l : List UInt8} {k : Nat} (h : k < l.length) : l[k]? = some (l.getD k 0) := by
  rw [List.getD_eq_getElem?_getD, List.getElem?_eq_getElem h]
  rfl
theorem RrX.belW {W w : World} {xb : Bl} {xr : List Ro} {bl : Bl} {ow : List Ro} {g : Nat} {st : RS} (h : RrX W xb xr bl ow g st w) : Below W.heap.size W w := by
  obtain ⟨A, c, h1, _⟩ := h
  exact h1.bel

theorem RrX.setRow {W w : World} {xb : Bl} {xr : List Ro} {bl : Bl} {ow : List Ro} {g : Nat} {st : RS} {r : Nat} {t : TypeId} {cs : Array Value} (h : RrX W ((r, t, cs) :: xb) xr bl ow g st w) (cs' : Array Value) : RrX W ((r, t, cs') :: xb) xr bl ow g st (w.setRow r cs') := by
  obtain ⟨A, c, h1, h2⟩ := h
  exact ⟨A, c, Mst.setRow (bl := []) [_] h1 cs', h2⟩
theorem info_n12 : (Try.prog.info? 23).map (·.size) = some 2 := by kernel_rfl
theorem RrX.rbW {W w : World} {xb : Bl} {xr : List Ro} {bl : Bl} {ow : List Ro} {g : Nat} {st : RS} (h : RrX W xb xr bl ow g st w) {e n c : Nat} {A : Option Addr} {l : List UInt8} (hm : (⟨e, 1, .slice A n c, n, by8 l⟩ : Ro) ∈ xr ++ ow) (hn : l.length = n) : RB w w.heap.size A l := by
  obtain ⟨A', c', h1, h2⟩ := h
  have := own_rd (h1.own _ hm)
  rw [← hn] at this
  exact this
theorem outW1 (s n : Int) (k : Nat) (h : (s = 1 ∧ k = 2) ∨ (s = 2 ∧ k = 4)) (h0 : 0 ≤ n) (h1 : n ≤ 9223372036854775807) (w : World) :
    Calls Try.prog 19 #[.agg #[.int .i64 s, .int .i64 n, .slice none 0 0]] w (RetFresh w 5 1 k (by8 (numB k n))) := by
  have := refout_num s n (by omega) (by omega) h0 h1 none 0 0 w
  have hk : widB s = k := by rcases h with ⟨rfl, rfl⟩ | ⟨rfl, rfl⟩ <;> rfl
  rw [hk] at this
  exact this

theorem step_store_rowW {P : Program} {ops : Array Oper} {Q : Exit → Act → World → Prop} {a : Act} {w : World} {K : Act → World → Prop} {E : Prop} {o : Oper} (hgd : o.guard = none) (ty : TypeId) (x y : Operand) (ho : o.op = .store ty x y)
    (g : Nat) (cells : Array Value) (hx : a.eval x = .pointer (some ⟨g, 0, none⟩)) (hy : a.eval y = .agg cells)
    (t : TypeId) (old : Array Value) (hg : w.heap[g]? = some (.cells old t (0, 0))) (hi : (P.info? ty).map (·.size) = some cells.size)
    (hold : old.size = cells.size) (h1 : cells.all (·.oneCell') = true)
    (h : K (a.put o.dst undef) (w.setRow g cells)) : if Region.wanted o (yielded ops a.tmps) = true then Oper.wp P o a w K Q else E := by
  have hw : Region.wanted o (yielded ops a.tmps) = true := by simp [Region.wanted, hgd]
  rw [if_pos hw]
  exact wp_store_row ty x y ho g cells hx hy t old hg hi hold h1 h
theorem all2W (a b : Int) : (#[Value.int .i64 a, .int .i64 b] : Array Value).all (·.oneCell') = true := by simp [Value.oneCell']
theorem RrX.mstW {W w : World} {xb : Bl} {xr : List Ro} {bl : Bl} {ow : List Ro} {g : Nat} {st : RS} (h : RrX W xb xr bl ow g st w) : Mst W w bl ow := by
  obtain ⟨A, c, h1, h2⟩ := h
  exact h1.sub ((List.sublist_append_right xb bl).cons _) (List.sublist_append_right xr ow)
theorem Mst.rbW {W w : World} {bl : Bl} {ow : List Ro} (h : Mst W w bl ow) {e n c : Nat} {A : Option Addr} {l : List UInt8} (hm : (⟨e, 1, .slice A n c, n, by8 l⟩ : Ro) ∈ ow) (hn : l.length = n) : RB w w.heap.size A l := by
  have := own_rd (h.own _ hm)
  rw [← hn] at this
  exact this
theorem step_appW {P : Program} {w W : World} {bl : List (Nat × TypeId × Array Value)} {ops : Array Oper} {o : Oper} {a : Act} {K : Act → World → Prop} {Q : Exit → Act → World → Prop} {E : Prop} (hgd : o.guard = none) (s x : Operand) (t : TypeId)
    (ho : o.op = .call { callee := .builtin .append, args := #[s, x], argTypes := #[t, t] })
    (pre : List Ro) {post : List Ro} {e : TypeId} {size n bytes : Nat} {v : Value} {xs : List Value} (hm : Mst W w bl (pre ++ ⟨e, size, v, n, xs⟩ :: post)) (hE : El P t e size bytes) (hs : a.eval s = v)
    (B : Nat) (A : Option Addr) (m c : Nat) (news : List Value) (hx : a.eval x = .slice A m c) (hr : Rd w B size A m news) (h1 : ∀ u ∈ news, u.oneCell' = true)
    (h63 : n + m ≤ maxLen) (hbytes : (n + m) * bytes ≤ 140737488355328)
    (h : ∀ A' c' w' N X, N = n + m → X = xs ++ news → Mst W w' bl (pre ++ ⟨e, size, .slice A' N c', N, X⟩ :: post) → K (a.put o.dst (.slice A' N c')) w') :
    if Region.wanted o (yielded ops a.tmps) = true then Oper.wp P o a w K Q else E :=
  step_appM hgd s x t ho pre hm hE hs B A m c news hx hr h1 h63 hbytes fun A' c' w' hm' => h A' c' w' _ _ rfl rfl hm'

set_option maxRecDepth 100000 in
set_option maxHeartbeats 3200000 in
theorem windowBytes_main (W : World) (p q r s : Int) (A : Option Addr) (c : Nat) (l : List UInt8) (hr : RB W W.heap.size A l) (hc : l.length ≤ c ∧ c ≤ 9223372036854775807) :
    Calls Try.prog 3 #[.agg #[.int .i64 p, .int .i64 q], .agg #[.int .i64 r, .int .i64 s], .slice A l.length c] W fun e W' => e = .returned (.bool true) ∧ Below W.heap.size W W' := by
  obtain ⟨N, hN⟩ : ∃ N, l.length = N := ⟨_, rfl⟩
  rw [hN] at hc ⊢
  obtain ⟨hc1, hc2⟩ := hc
  have hr3 := hr.cutW 20
  obtain ⟨m, hm, m2, m1⟩ := cutW_n N 20
  obtain ⟨l', hl'⟩ : ∃ l', l.take 20 = l' := ⟨_, rfl⟩
  have hln : l'.length = m := by rw [← hl', List.length_take]; omega
  rw [hl'] at hr3
  have hmin2 : min (N : Int) 20 = m := hm.symm
  have m4 : (0 : Int) ≤ m := by omega
  have m5 : (m : Int) ≤ c := by omega
  have m6 : (m : Int) ≤ 20 := by omega
  have HLN := Lib.hid hln
  have HRL := Lib.hid hr3
  have m1' := ((Mst.start W).new 23 #[.int .i64 p, .int .i64 q]).new 23 #[.int .i64 r, .int .i64 s]
  rw [show (W.alloc (.cells #[.int .i64 p, .int .i64 q] 23)).heap.size = W.heap.size + 1 by simp] at m1'
  have Mq := Lib.hid m1'
  have HCL := Lib.hid (show ∀ w' ow, Mst W w' [(W.heap.size + 1, 23, #[.int .i64 r, .int .i64 s]), (W.heap.size, 23, #[.int .i64 p, .int .i64 q])] ow → w'.cell? ⟨W.heap.size, 0, none⟩ = some (.int .i64 p) ∧ w'.cell? ⟨W.heap.size, 1, none⟩ = some (.int .i64 q) ∧ w'.cell? ⟨W.heap.size + 1, 0, none⟩ = some (.int .i64 r) ∧ w'.cell? ⟨W.heap.size + 1, 1, none⟩ = some (.int .i64 s) from fun w' ow h => ⟨(h.blk [_]).cell 0, (h.blk [_]).cell 1, (h.blk []).cell 0, (h.blk []).cell 1⟩)
  obtain ⟨ls, hls⟩ : ∃ b, lessN p q r s = b := ⟨_, rfl⟩
  have hwl := fun w => wless_any p q r s w
  have hrl := fun w => less12 p q r s w
  simp only [hls] at hwl hrl
  have HWL := Lib.hid hwl
  have HRLS := Lib.hid hrl
  have hnew := fun w hM h => rdnew_any W w [] [] hM A c l' h (by omega)
  simp only [hln] at hnew
  have HNEW := Lib.hid hnew
  have HNR := Lib.hid (newR_ok (l := l') (by omega))
  clear hr hm hl' hr3 hln m1' hls hwl hrl hN hnew
  by_cases hok : wnOk p q
  case' pos =>
    have hokf : okN p q = true := by unfold wnOk at hok; simp [okN]; omega
    have hri := fun w => right12 p q w
    simp only [hokf] at hri
    have HRI := Lib.hid hri
    have HWB := Lib.hid (fun w => wnbytes_ok p q w hok)
    have HCK := Lib.hid (fun w => check_yes p q w (by unfold wnOk at hok; omega) (by unfold wnOk at hok; omega) (by unfold wnOk at hok; omega) (by unfold wnOk at hok; omega))
    have HO1 := Lib.hid (outW1 1 p 2 (.inl ⟨rfl, rfl⟩) (by unfold wnOk at hok; omega) (by unfold wnOk at hok; omega))
    have HO2 := Lib.hid (outW1 2 q 4 (.inr ⟨rfl, rfl⟩) (by unfold wnOk at hok; omega) (by unfold wnOk at hok; omega))
    obtain ⟨X, hX⟩ : ∃ X, wnB p q = X := ⟨_, rfl⟩
    have hXl : X.length = 6 := by rw [← hX, wnB_length]
    have HXL := Lib.hid hXl
    have HX := Lib.hid hX
    have hnr := newR_ok (l := X) (by omega)
    have hwb := wnRead_back hok
    rw [hX, ← hnr] at hwb
    have HWR := Lib.hid hwb
    have hnx := fun w bl ow A c hM h => rdnew_any W w bl ow hM A c X h (by omega)
    simp only [hXl] at hnx
    have HNX := Lib.hid hnx
    have HSM := Lib.hid (show ∀ w A A' c c' n, n = 6 → RB w w.heap.size A X → RB w w.heap.size A' X → Calls Try.prog 22 #[.slice A 6 c, .slice A' n c'] w fun e w' => e = .returned (.bool true) ∧ Below w.heap.size w w' from by
      intro w A A' c c' n hn h1 h2
      have := same_yes A A' c c' X w h1 h2 (by unfold maxLen; omega)
      rw [hXl] at this
      rw [hn]
      exact this)
    have hne := fun w => ne_refNonce w p q p q
    simp only [eq2, beq_self_eq_true, Bool.and_self, Bool.not_true] at hne
    have HNE := Lib.hid hne
    clear hok hokf hri hX hXl hwb hnx hnr hne
    go_enter Try.func3, Try.ntmps3
    go_wp2_with fail
    refine (to12 _ _ _).mono ?_
    rintro e w1 ⟨rfl, hb⟩
    have Mq := Lib.hid (Mq.out.below hb)
    clear hb
    go_wp2_with fail
    refine (HWB.out _).mono ?_
    rintro e w2 ⟨v, rfl, hf⟩
    obtain ⟨A1, c1, rfl, -, -, hc1, -⟩ := own_form hf.own
    have HC1 := Lib.hid hc1
    rw [HX.out] at hf
    have Mq := Lib.hid (Mq.out.addr hf).drew
    have K0 := Lib.hid (HCL.out _ _ Mq.out)
    clear hf hc1
    go_upto_region 3 with fail
    refine wp_region_held_drew (S := fun w' => w'.cell? ⟨W.heap.size, 0, none⟩ = some (.int .i64 p) ∧ w'.cell? ⟨W.heap.size, 1, none⟩ = some (.int .i64 q) ∧ w'.cell? ⟨W.heap.size + 1, 0, none⟩ = some (.int .i64 r) ∧ w'.cell? ⟨W.heap.size + 1, 1, none⟩ = some (.int .i64 s)) (by kernel_rfl) ?_ (fun hHeld => ?_)
    · exact K0.out
    generalize World.drew w2 = w7 at Mq hHeld ⊢
    refine wpAnyH_take (i := 0) (v := ?_) rfl (by kernel_rfl) (by kernel_rfl) (by kernel_rfl) (fun _ _ _ h => h) (Or.inl ⟨by rfl, ?_⟩) (by assumption) ?_
    rotate_left
    · intro w hSw; (try dsimp only at hSw); go_split_ands; go_simp; with_reducible rfl
    change wpAnyH _ _ _ _ _ _ _ (Act.put _ (some 27) _) _
    simp only [Act.put, List.setIfInBounds_toArray, List.set_cons_zero, List.set_cons_succ, Array.toArray_toList]
    refine wpAnyH_take (i := 2) (v := ?_) rfl (by kernel_rfl) (by kernel_rfl) (by kernel_rfl) (fun _ _ _ h => h) (Or.inl ⟨by rfl, ?_⟩) (by assumption) ?_
    rotate_left
    · intro w hSw; (try dsimp only at hSw); go_split_ands; go_simp; with_reducible rfl
    change wpAnyH _ _ _ _ _ _ _ (Act.put _ (some 29) _) _
    simp only [Act.put, List.setIfInBounds_toArray, List.set_cons_zero, List.set_cons_succ, Array.toArray_toList]
    refine wpAnyH_take (i := 3) (v := ?_) rfl (by kernel_rfl) (by kernel_rfl) (by kernel_rfl) (fun _ _ _ h => h) (Or.inl ⟨by rfl, ?_⟩) (by assumption) ?_
    rotate_left
    · intro w hSw; (try dsimp only at hSw); go_split_ands; go_simp; with_reducible rfl
    change wpAnyH _ _ _ _ _ _ _ (Act.put _ (some 30) _) _
    simp only [Act.put, List.setIfInBounds_toArray, List.set_cons_zero, List.set_cons_succ, Array.toArray_toList]
    refine wpAnyH_ready (rs := [1]) (by kernel_rfl) (by simp) ?_
    refine (AllReadyH.cons rfl (fun K hK => ?_) AllReadyH.nil)
    go_simp
    (with_reducible refine (HRI.out _).mono ?_); rintro e wq ⟨rfl, hb⟩; have Mq := Lib.hid (Mq.out.below hb); clear hb
    go_wp2_with fail
    refine hK.out _ _ (by exact HCL.out _ _ Mq.out) (fun hHeld => ?_)
    clear hK K
    refine wpAnyH_take (i := 4) (v := ?_) rfl (by kernel_rfl) (by kernel_rfl) (by kernel_rfl) (fun _ _ _ h => h) (Or.inl ⟨by rfl, ?_⟩) (by assumption) ?_
    rotate_left
    · intro w hSw; (try dsimp only at hSw); go_split_ands; go_simp; with_reducible rfl
    change wpAnyH _ _ _ _ _ _ _ (Act.put _ (some 31) _) _
    simp only [Act.put, List.setIfInBounds_toArray, List.set_cons_zero, List.set_cons_succ, Array.toArray_toList]
    refine wpAnyH_take (i := 5) (v := ?_) rfl (by kernel_rfl) (by kernel_rfl) (by kernel_rfl) (fun _ _ _ h => h) (Or.inl ⟨by rfl, ?_⟩) (by assumption) ?_
    rotate_left
    · intro w hSw; (try dsimp only at hSw); go_split_ands; go_simp; with_reducible rfl
    change wpAnyH _ _ _ _ _ _ _ (Act.put _ (some 32) _) _
    simp only [Act.put, List.setIfInBounds_toArray, List.set_cons_zero, List.set_cons_succ, Array.toArray_toList]
    refine wpAnyH_take (i := 6) (v := ?_) rfl (by kernel_rfl) (by kernel_rfl) (by kernel_rfl) (fun _ _ _ h => h) (Or.inl ⟨by rfl, ?_⟩) (by assumption) ?_
    rotate_left
    · intro w hSw; (try dsimp only at hSw); go_split_ands; go_simp; with_reducible rfl
    change wpAnyH _ _ _ _ _ _ _ (Act.put _ (some 33) _) _
    simp only [Act.put, List.setIfInBounds_toArray, List.set_cons_zero, List.set_cons_succ, Array.toArray_toList]
    refine wpAnyH_take (i := 10) (v := ?_) rfl (by kernel_rfl) (by kernel_rfl) (by kernel_rfl) (fun _ _ _ h => h) (Or.inl ⟨by rfl, ?_⟩) (by assumption) ?_
    rotate_left
    · intro w hSw; (try dsimp only at hSw); go_split_ands; go_simp; with_reducible rfl
    change wpAnyH _ _ _ _ _ _ _ (Act.put _ (some 37) _) _
    simp only [Act.put, List.setIfInBounds_toArray, List.set_cons_zero, List.set_cons_succ, Array.toArray_toList]
    refine wpAnyH_ready (rs := [7]) (by kernel_rfl) (by simp) ?_
    refine (AllReadyH.cons rfl (fun K hK => ?_) AllReadyH.nil)
    go_simp
    (with_reducible refine (to12 _ _ _).mono ?_); rintro e wq ⟨rfl, hb⟩; have Mq := Lib.hid (Mq.out.below hb); clear hb
    go_wp2_with fail
    refine hK.out _ _ (by exact HCL.out _ _ Mq.out) (fun hHeld => ?_)
    clear hK K
    refine wpAnyH_ready (rs := [8]) (by kernel_rfl) (by simp) ?_
    refine (AllReadyH.cons rfl (fun K hK => ?_) AllReadyH.nil)
    go_simp
    (with_reducible refine (HCK.out _).mono ?_); rintro e wq ⟨rfl, hb⟩; have Mq := Lib.hid (Mq.out.below hb); clear hb
    go_wp2_with fail
    refine hK.out _ _ (by exact HCL.out _ _ Mq.out) (fun hHeld => ?_)
    clear hK K
    refine wpAnyH_take (i := 9) (v := ?_) rfl (by kernel_rfl) (by kernel_rfl) (by kernel_rfl) (fun _ _ _ h => h) (Or.inl ⟨by rfl, ?_⟩) (by assumption) ?_
    rotate_left
    · intro w hSw; (try dsimp only at hSw); go_split_ands; go_simp; with_reducible rfl
    change wpAnyH _ _ _ _ _ _ _ (Act.put _ (some 36) _) _
    simp only [Act.put, List.setIfInBounds_toArray, List.set_cons_zero, List.set_cons_succ, Array.toArray_toList]
    refine wpAnyH_ready (rs := [11]) (by kernel_rfl) (by simp) ?_
    refine (AllReadyH.cons rfl (fun K hK => ?_) AllReadyH.nil)
    go_simp
    (with_reducible refine (HRI.out _).mono ?_); rintro e wq ⟨rfl, hb⟩; have Mq := Lib.hid (Mq.out.below hb); clear hb
    go_wp2_with fail
    refine hK.out _ _ (by exact HCL.out _ _ Mq.out) (fun hHeld => ?_)
    clear hK K
    refine wpAnyH_take (i := 12) (v := ?_) rfl (by kernel_rfl) (by kernel_rfl) (by kernel_rfl) (fun _ _ _ h => h) (Or.inl ⟨by rfl, ?_⟩) (by assumption) ?_
    rotate_left
    · intro w hSw; (try dsimp only at hSw); go_split_ands; go_simp; with_reducible rfl
    change wpAnyH _ _ _ _ _ _ _ (Act.put _ (some 39) _) _
    simp only [Act.put, List.setIfInBounds_toArray, List.set_cons_zero, List.set_cons_succ, Array.toArray_toList]
    refine wpAnyH_take (i := 13) (v := ?_) rfl (by kernel_rfl) (by kernel_rfl) (by kernel_rfl) (fun _ _ _ h => h) (Or.inl ⟨by rfl, ?_⟩) (by assumption) ?_
    rotate_left
    · intro w hSw; (try dsimp only at hSw); go_split_ands; go_simp; with_reducible rfl
    change wpAnyH _ _ _ _ _ _ _ (Act.put _ (some 40) _) _
    simp only [Act.put, List.setIfInBounds_toArray, List.set_cons_zero, List.set_cons_succ, Array.toArray_toList]
    refine wpAnyH_take (i := 14) (v := ?_) rfl (by kernel_rfl) (by kernel_rfl) (by kernel_rfl) (fun _ _ _ h => h) (Or.inl ⟨by rfl, ?_⟩) (by assumption) ?_
    rotate_left
    · intro w hSw; (try dsimp only at hSw); go_split_ands; go_simp; with_reducible rfl
    change wpAnyH _ _ _ _ _ _ _ (Act.put _ (some 41) _) _
    simp only [Act.put, List.setIfInBounds_toArray, List.set_cons_zero, List.set_cons_succ, Array.toArray_toList]
    refine wpAnyH_take (i := 15) (v := ?_) rfl (by kernel_rfl) (by kernel_rfl) (by kernel_rfl) (fun _ _ _ h => h) (Or.inl ⟨by rfl, ?_⟩) (by assumption) ?_
    rotate_left
    · intro w hSw; (try dsimp only at hSw); go_split_ands; go_simp; with_reducible rfl
    change wpAnyH _ _ _ _ _ _ _ (Act.put _ (some 42) _) _
    simp only [Act.put, List.setIfInBounds_toArray, List.set_cons_zero, List.set_cons_succ, Array.toArray_toList]
    refine wpAnyH_take (i := 17) (v := ?_) rfl (by kernel_rfl) (by kernel_rfl) (by kernel_rfl) (fun _ _ _ h => h) (Or.inl ⟨by rfl, ?_⟩) (by assumption) ?_
    rotate_left
    · intro w hSw; (try dsimp only at hSw); go_split_ands; go_simp; with_reducible rfl
    change wpAnyH _ _ _ _ _ _ _ (Act.put _ (some 44) _) _
    simp only [Act.put, List.setIfInBounds_toArray, List.set_cons_zero, List.set_cons_succ, Array.toArray_toList]
    refine wpAnyH_take (i := 20) (v := ?_) rfl (by kernel_rfl) (by kernel_rfl) (by kernel_rfl) (fun _ _ _ h => h) (Or.inl ⟨by rfl, ?_⟩) (by assumption) ?_
    rotate_left
    · intro w hSw; (try dsimp only at hSw); go_split_ands; go_simp; with_reducible rfl
    change wpAnyH _ _ _ _ _ _ _ (Act.put _ (some 47) _) _
    simp only [Act.put, List.setIfInBounds_toArray, List.set_cons_zero, List.set_cons_succ, Array.toArray_toList]
    refine wpAnyH_take (i := 21) (v := ?_) rfl (by kernel_rfl) (by kernel_rfl) (by kernel_rfl) (fun _ _ _ h => h) (Or.inl ⟨by rfl, ?_⟩) (by assumption) ?_
    rotate_left
    · intro w hSw; (try dsimp only at hSw); go_split_ands; go_simp; with_reducible rfl
    change wpAnyH _ _ _ _ _ _ _ (Act.put _ (some 48) _) _
    simp only [Act.put, List.setIfInBounds_toArray, List.set_cons_zero, List.set_cons_succ, Array.toArray_toList]
    refine wpAnyH_ready (rs := [16]) (by kernel_rfl) (by simp) ?_
    refine (AllReadyH.cons rfl (fun K hK => ?_) AllReadyH.nil)
    go_simp
    (with_reducible refine (to12 _ _ _).mono ?_); rintro e wq ⟨rfl, hb⟩; have Mq := Lib.hid (Mq.out.below hb); clear hb
    go_wp2_with fail
    refine hK.out _ _ (by exact HCL.out _ _ Mq.out) (fun hHeld => ?_)
    clear hK K
    refine wpAnyH_ready (rs := [18]) (by kernel_rfl) (by simp) ?_
    refine (AllReadyH.cons rfl (fun K hK => ?_) AllReadyH.nil)
    go_simp
    (with_reducible refine (to12 _ _ _).mono ?_); rintro e wq ⟨rfl, hb⟩; have Mq := Lib.hid (Mq.out.below hb); clear hb
    go_wp2_with fail
    refine hK.out _ _ (by exact HCL.out _ _ Mq.out) (fun hHeld => ?_)
    clear hK K
    refine wpAnyH_ready (rs := [19]) (by kernel_rfl) (by simp) ?_
    refine (AllReadyH.cons rfl (fun K hK => ?_) AllReadyH.nil)
    go_simp
    (with_reducible refine (HWL.out _).mono ?_); rintro e wq ⟨rfl, hb⟩; have Mq := Lib.hid (Mq.out.below hb); clear hb
    go_wp2_with fail
    refine hK.out _ _ (by exact HCL.out _ _ Mq.out) (fun hHeld => ?_)
    clear hK K
    refine wpAnyH_ready (rs := [22]) (by kernel_rfl) (by simp) ?_
    refine (AllReadyH.cons rfl (fun K hK => ?_) AllReadyH.nil)
    go_simp
    (with_reducible refine (HRLS.out _).mono ?_); rintro e wq ⟨rfl, hb⟩; have Mq := Lib.hid (Mq.out.below hb); clear hb
    go_wp2_with fail
    refine hK.out _ _ (by exact HCL.out _ _ Mq.out) (fun hHeld => ?_)
    clear hK K
    refine wpAnyH_take (i := 23) (v := ?_) rfl (by kernel_rfl) (by kernel_rfl) (by kernel_rfl) (fun _ _ _ h => h) (Or.inl ⟨by rfl, ?_⟩) (by assumption) ?_
    rotate_left
    · intro w hSw; (try dsimp only at hSw); go_split_ands; go_simp; with_reducible rfl
    change wpAnyH _ _ _ _ _ _ _ (Act.put _ (some 50) _) _
    simp only [Act.put, List.setIfInBounds_toArray, List.set_cons_zero, List.set_cons_succ, Array.toArray_toList]
    refine wpAnyH_take (i := 24) (v := ?_) rfl (by kernel_rfl) (by kernel_rfl) (by kernel_rfl) (fun _ _ _ h => h) (Or.inl ⟨by rfl, ?_⟩) (by assumption) ?_
    rotate_left
    · intro w hSw; (try dsimp only at hSw); go_split_ands; go_simp; with_reducible rfl
    change wpAnyH _ _ _ _ _ _ _ (Act.put _ (some 51) _) _
    simp only [Act.put, List.setIfInBounds_toArray, List.set_cons_zero, List.set_cons_succ, Array.toArray_toList]
    refine wpAnyH_done (by kernel_rfl) ?_ _
    clear hHeld K0 HRI HWB HCK HWL HRLS
    have Mq := Lib.hid Mq.out.drew
    have K0 := Lib.hid (HCL.out _ _ Mq.out)
    go_upto_region 6 with fail
    refine wp_region_held_drew (S := fun w' => w'.cell? ⟨W.heap.size, 0, none⟩ = some (.int .i64 p) ∧ w'.cell? ⟨W.heap.size, 1, none⟩ = some (.int .i64 q) ∧ w'.cell? ⟨W.heap.size + 1, 0, none⟩ = some (.int .i64 r) ∧ w'.cell? ⟨W.heap.size + 1, 1, none⟩ = some (.int .i64 s)) (by kernel_rfl) ?_ (fun hHeld => ?_)
    · exact K0.out
    generalize World.drew _ = w7 at Mq hHeld ⊢
    refine wpAnyH_take (i := 0) (v := ?_) rfl (by kernel_rfl) (by kernel_rfl) (by kernel_rfl) (fun _ _ _ h => h) (Or.inl ⟨by rfl, ?_⟩) (by assumption) ?_
    rotate_left
    · intro w hSw; (try dsimp only at hSw); go_split_ands; go_simp; with_reducible rfl
    change wpAnyH _ _ _ _ _ _ _ (Act.put _ (some 54) _) _
    simp only [Act.put, List.setIfInBounds_toArray, List.set_cons_zero, List.set_cons_succ, Array.toArray_toList]
    refine wpAnyH_take (i := 1) (v := ?_) rfl (by kernel_rfl) (by kernel_rfl) (by kernel_rfl) (fun _ _ _ h => h) (Or.inl ⟨by rfl, ?_⟩) (by assumption) ?_
    rotate_left
    · intro w hSw; (try dsimp only at hSw); go_split_ands; go_simp; with_reducible rfl
    change wpAnyH _ _ _ _ _ _ _ (Act.put _ (some 55) _) _
    simp only [Act.put, List.setIfInBounds_toArray, List.set_cons_zero, List.set_cons_succ, Array.toArray_toList]
    refine wpAnyH_take (i := 2) (v := ?_) rfl (by kernel_rfl) (by kernel_rfl) (by kernel_rfl) (fun _ _ _ h => h) (Or.inl ⟨by rfl, ?_⟩) (by assumption) ?_
    rotate_left
    · intro w hSw; (try dsimp only at hSw); go_split_ands; go_simp; with_reducible rfl
    change wpAnyH _ _ _ _ _ _ _ (Act.put _ (some 56) _) _
    simp only [Act.put, List.setIfInBounds_toArray, List.set_cons_zero, List.set_cons_succ, Array.toArray_toList]
    refine wpAnyH_take (i := 4) (v := ?_) rfl (by kernel_rfl) (by kernel_rfl) (by kernel_rfl) (fun _ _ _ h => h) (Or.inl ⟨by rfl, ?_⟩) (by assumption) ?_
    rotate_left
    · intro w hSw; (try dsimp only at hSw); go_split_ands; go_simp; with_reducible rfl
    change wpAnyH _ _ _ _ _ _ _ (Act.put _ (some 58) _) _
    simp only [Act.put, List.setIfInBounds_toArray, List.set_cons_zero, List.set_cons_succ, Array.toArray_toList]
    refine wpAnyH_take (i := 5) (v := ?_) rfl (by kernel_rfl) (by kernel_rfl) (by kernel_rfl) (fun _ _ _ h => h) (Or.inl ⟨by rfl, ?_⟩) (by assumption) ?_
    rotate_left
    · intro w hSw; (try dsimp only at hSw); go_split_ands; go_simp; with_reducible rfl
    change wpAnyH _ _ _ _ _ _ _ (Act.put _ (some 59) _) _
    simp only [Act.put, List.setIfInBounds_toArray, List.set_cons_zero, List.set_cons_succ, Array.toArray_toList]
    refine wpAnyH_take (i := 6) (v := ?_) rfl (by kernel_rfl) (by kernel_rfl) (by kernel_rfl) (fun _ _ _ h => h) (Or.inl ⟨by rfl, ?_⟩) (by assumption) ?_
    rotate_left
    · intro w hSw; (try dsimp only at hSw); go_split_ands; go_simp; with_reducible rfl
    change wpAnyH _ _ _ _ _ _ _ (Act.put _ (some 60) _) _
    simp only [Act.put, List.setIfInBounds_toArray, List.set_cons_zero, List.set_cons_succ, Array.toArray_toList]
    refine wpAnyH_ready (rs := [3]) (by kernel_rfl) (by simp) ?_
    refine (AllReadyH.cons rfl (fun K hK => ?_) AllReadyH.nil)
    go_simp
    (with_reducible refine (HO1.out _).mono ?_); rintro e wq ⟨v, rfl, hf⟩; obtain ⟨A2, c2, rfl, -, -, -, -⟩ := own_form hf.own; have Mq := Lib.hid (Mq.out.addr hf); clear hf
    go_wp2_with fail
    refine hK.out _ _ (by exact HCL.out _ _ Mq.out) (fun hHeld => ?_)
    clear hK K
    refine wpAnyH_ready (rs := [7]) (by kernel_rfl) (by simp) ?_
    refine (AllReadyH.cons rfl (fun K hK => ?_) AllReadyH.nil)
    go_simp
    (with_reducible refine (HO2.out _).mono ?_); rintro e wq ⟨v, rfl, hf⟩; obtain ⟨A3, c3, rfl, -, -, -, -⟩ := own_form hf.own; have Mq := Lib.hid (Mq.out.addr hf); clear hf
    go_wp2_with fail
    refine hK.out _ _ (by exact HCL.out _ _ Mq.out) (fun hHeld => ?_)
    clear hK K
    refine wpAnyH_ready (rs := [8]) (by kernel_rfl) (by simp) ?_
    refine (AllReadyH.cons rfl (fun K hK => ?_) AllReadyH.nil)
    refine step_appW rfl _ _ 24 rfl [_] Mq.out el_u8 rfl _ A3 4 c3 _ rfl (own_rd (Mq.out.row [])) (by8_one _) (by decide) (by decide) ?_; intro A4 c4 wq N4 X4 hn4 hx4 mq; have Mq := Lib.hid (Mst.sub (ow' := _) mq (List.Sublist.refl _) (List.sublist_cons_self _ _)); have HN4 := Lib.hid hn4; have HX4 := Lib.hid hx4; clear mq hn4 hx4
    refine hK.out _ _ (by exact HCL.out _ _ Mq.out) (fun hHeld => ?_)
    clear hK K
    (try (change wpAnyH _ _ _ _ _ _ _ (Act.put _ (some 62) _) _; simp only [Act.put, List.setIfInBounds_toArray, List.set_cons_zero, List.set_cons_succ, Array.toArray_toList]))
    refine wpAnyH_take (i := 9) (v := ?_) rfl (by kernel_rfl) (by kernel_rfl) (by kernel_rfl) (fun _ _ _ h => h) (Or.inl ⟨by rfl, ?_⟩) (by assumption) ?_
    rotate_left
    · intro w hSw; (try dsimp only at hSw); go_split_ands; go_simp; with_reducible rfl
    change wpAnyH _ _ _ _ _ _ _ (Act.put _ (some 9) _) _
    simp only [Act.put, List.setIfInBounds_toArray, List.set_cons_zero, List.set_cons_succ, Array.toArray_toList]
    refine wpAnyH_done (by kernel_rfl) ?_ _
    have hx4 : X4 = by8 X := by rw [HX4.out, ← HX.out, wnB, by8_append]
    rw [hx4] at Mq
    clear hHeld K0 hx4 HX4 HO1 HO2
    go_wp2_with fail
    refine (HNX.out _ _ _ _ _ Mq.out (Mq.out.rbW (e := 5) (List.mem_cons_of_mem _ (List.mem_cons_self ..)) HXL.out)).mono ?_
    rintro e w5 ⟨g, A5, c5, rfl, hg, h1⟩
    go_wp2_with fail
    refine (wnread_any W _ _ _ _ _ g _ h1).mono ?_
    rintro e w6 ⟨rfl, h2⟩
    rw [HWR.out]
    have Mq := Lib.hid (h2.mstW.dropr.new 28 #[.int .i64 p, .int .i64 q]).drew
    clear h1 h2 hg
    simp only [wnV]
    have K0 := Lib.hid (show ((w6.alloc (.cells #[.int .i64 p, .int .i64 q] 28)).drew).cell? ⟨W.heap.size, 0, none⟩ = some (.int .i64 p) ∧ ((w6.alloc (.cells #[.int .i64 p, .int .i64 q] 28)).drew).cell? ⟨W.heap.size, 1, none⟩ = some (.int .i64 q) ∧ ((w6.alloc (.cells #[.int .i64 p, .int .i64 q] 28)).drew).cell? ⟨w6.heap.size, 0, none⟩ = some (.int .i64 p) ∧ ((w6.alloc (.cells #[.int .i64 p, .int .i64 q] 28)).drew).cell? ⟨w6.heap.size, 1, none⟩ = some (.int .i64 q) from ⟨(Mq.out.blk [_, _]).cell 0, (Mq.out.blk [_, _]).cell 1, (Mq.out.blk []).cell 0, (Mq.out.blk []).cell 1⟩)
    go_upto_region 8 with fail
    refine wp_region_held_drew (S := fun w' => w'.cell? ⟨W.heap.size, 0, none⟩ = some (.int .i64 p) ∧ w'.cell? ⟨W.heap.size, 1, none⟩ = some (.int .i64 q) ∧ w'.cell? ⟨w6.heap.size, 0, none⟩ = some (.int .i64 p) ∧ w'.cell? ⟨w6.heap.size, 1, none⟩ = some (.int .i64 q)) (by kernel_rfl) ?_ (fun hHeld => ?_)
    · exact K0.out
    generalize World.drew _ = w7 at Mq hHeld ⊢
    refine wpAnyH_take (i := 0) (v := ?_) rfl (by kernel_rfl) (by kernel_rfl) (by kernel_rfl) (fun _ _ _ h => h) (Or.inl ⟨by rfl, ?_⟩) (by assumption) ?_
    rotate_left
    · intro w hSw; (try dsimp only at hSw); go_split_ands; go_simp; with_reducible rfl
    change wpAnyH _ _ _ _ _ _ _ (Act.put _ (some 69) _) _
    simp only [Act.put, List.setIfInBounds_toArray, List.set_cons_zero, List.set_cons_succ, Array.toArray_toList]
    refine wpAnyH_take (i := 1) (v := ?_) rfl (by kernel_rfl) (by kernel_rfl) (by kernel_rfl) (fun _ _ _ h => h) (Or.inl ⟨by rfl, ?_⟩) (by assumption) ?_
    rotate_left
    · intro w hSw; (try dsimp only at hSw); go_split_ands; go_simp; with_reducible rfl
    change wpAnyH _ _ _ _ _ _ _ (Act.put _ (some 70) _) _
    simp only [Act.put, List.setIfInBounds_toArray, List.set_cons_zero, List.set_cons_succ, Array.toArray_toList]
    refine wpAnyH_ready (rs := [2]) (by kernel_rfl) (by simp) ?_
    refine (AllReadyH.cons rfl (fun K hK => ?_) AllReadyH.nil)
    go_simp
    (with_reducible refine (HSM.out _ _ _ _ _ _ HN4.out (Mq.out.rbW (e := 5) (List.mem_cons_of_mem _ (List.mem_cons_self ..)) HXL.out) (Mq.out.rbW (e := 5) (List.mem_cons_self ..) (HXL.out.trans HN4.out.symm))).mono ?_); rintro e wq ⟨rfl, hb⟩; have Mq := Lib.hid (Mq.out.below hb); clear hb
    go_wp2_with fail
    refine hK.out _ _ (by exact ⟨(Mq.out.blk [_, _]).cell 0, (Mq.out.blk [_, _]).cell 1, (Mq.out.blk []).cell 0, (Mq.out.blk []).cell 1⟩) (fun hHeld => ?_)
    clear hK K
    refine wpAnyH_take (i := 3) (v := ?_) rfl (by kernel_rfl) (by kernel_rfl) (by kernel_rfl) (fun _ _ _ h => h) (Or.inl ⟨by rfl, ?_⟩) (by assumption) ?_
    rotate_left
    · intro w hSw; (try dsimp only at hSw); go_split_ands; go_simp; with_reducible rfl
    change wpAnyH _ _ _ _ _ _ _ (Act.put _ (some 72) _) _
    simp only [Act.put, List.setIfInBounds_toArray, List.set_cons_zero, List.set_cons_succ, Array.toArray_toList]
    refine wpAnyH_take (i := 4) (v := ?_) rfl (by kernel_rfl) (by kernel_rfl) (by kernel_rfl) (fun _ _ _ h => h) (Or.inl ⟨by rfl, ?_⟩) (by assumption) ?_
    rotate_left
    · intro w hSw; (try dsimp only at hSw); go_split_ands; go_simp; with_reducible rfl
    change wpAnyH _ _ _ _ _ _ _ (Act.put _ (some 73) _) _
    simp only [Act.put, List.setIfInBounds_toArray, List.set_cons_zero, List.set_cons_succ, Array.toArray_toList]
    refine wpAnyH_take (i := 5) (v := ?_) rfl (by kernel_rfl) (by kernel_rfl) (by kernel_rfl) (fun _ _ _ h => h) (Or.inl ⟨by rfl, ?_⟩) (by assumption) ?_
    rotate_left
    · intro w hSw; (try dsimp only at hSw); go_split_ands; go_simp; with_reducible rfl
    change wpAnyH _ _ _ _ _ _ _ (Act.put _ (some 74) _) _
    simp only [Act.put, List.setIfInBounds_toArray, List.set_cons_zero, List.set_cons_succ, Array.toArray_toList]
    refine wpAnyH_take (i := 6) (v := ?_) rfl (by kernel_rfl) (by kernel_rfl) (by kernel_rfl) (fun _ _ _ h => h) (Or.inl ⟨by rfl, ?_⟩) (by assumption) ?_
    rotate_left
    · intro w hSw; (try dsimp only at hSw); go_split_ands; go_simp; with_reducible rfl
    change wpAnyH _ _ _ _ _ _ _ (Act.put _ (some 75) _) _
    simp only [Act.put, List.setIfInBounds_toArray, List.set_cons_zero, List.set_cons_succ, Array.toArray_toList]
    refine wpAnyH_take (i := 7) (v := ?_) rfl (by kernel_rfl) (by kernel_rfl) (by kernel_rfl) (fun _ _ _ h => h) (Or.inl ⟨by rfl, ?_⟩) (by assumption) ?_
    rotate_left
    · intro w hSw; (try dsimp only at hSw); go_split_ands; go_simp; with_reducible rfl
    change wpAnyH _ _ _ _ _ _ _ (Act.put _ (some 76) _) _
    simp only [Act.put, List.setIfInBounds_toArray, List.set_cons_zero, List.set_cons_succ, Array.toArray_toList]
    refine wpAnyH_take (i := 8) (v := ?_) rfl (by kernel_rfl) (by kernel_rfl) (by kernel_rfl) (fun _ _ _ h => h) (Or.inl ⟨by rfl, ?_⟩) (by assumption) ?_
    rotate_left
    · intro w hSw; (try dsimp only at hSw); go_split_ands; go_simp; with_reducible rfl
    change wpAnyH _ _ _ _ _ _ _ (Act.put _ (some 77) _) _
    simp only [Act.put, List.setIfInBounds_toArray, List.set_cons_zero, List.set_cons_succ, Array.toArray_toList]
    refine wpAnyH_take (i := 9) (v := ?_) rfl (by kernel_rfl) (by kernel_rfl) (by kernel_rfl) (fun _ _ _ h => h) (Or.inl ⟨by rfl, ?_⟩) (by assumption) ?_
    rotate_left
    · intro w hSw; (try dsimp only at hSw); go_split_ands; go_simp; with_reducible rfl
    change wpAnyH _ _ _ _ _ _ _ (Act.put _ (some 78) _) _
    simp only [Act.put, List.setIfInBounds_toArray, List.set_cons_zero, List.set_cons_succ, Array.toArray_toList]
    refine wpAnyH_take (i := 11) (v := ?_) rfl (by kernel_rfl) (by kernel_rfl) (by kernel_rfl) (fun _ _ _ h => h) (Or.inl ⟨by rfl, ?_⟩) (by assumption) ?_
    rotate_left
    · intro w hSw; (try dsimp only at hSw); go_split_ands; go_simp; with_reducible rfl
    change wpAnyH _ _ _ _ _ _ _ (Act.put _ (some 80) _) _
    simp only [Act.put, List.setIfInBounds_toArray, List.set_cons_zero, List.set_cons_succ, Array.toArray_toList]
    refine wpAnyH_ready (rs := [10]) (by kernel_rfl) (by simp) ?_
    refine (AllReadyH.cons rfl (fun K hK => ?_) AllReadyH.nil)
    go_simp
    (with_reducible refine (of12 _ _ _).mono ?_); rintro e wq ⟨rfl, hb⟩; have Mq := Lib.hid (Mq.out.below hb); have hne := HNE.out; clear hb
    go_wp2_with fail
    refine hK.out _ _ (by exact ⟨(Mq.out.blk [_, _]).cell 0, (Mq.out.blk [_, _]).cell 1, (Mq.out.blk []).cell 0, (Mq.out.blk []).cell 1⟩) (fun hHeld => ?_)
    clear hK K
    refine wpAnyH_take (i := 12) (v := ?_) rfl (by kernel_rfl) (by kernel_rfl) (by kernel_rfl) (fun _ _ _ h => h) (Or.inl ⟨by rfl, ?_⟩) (by assumption) ?_
    rotate_left
    · intro w hSw; (try dsimp only at hSw); go_split_ands; go_simp; with_reducible rfl
    change wpAnyH _ _ _ _ _ _ _ (Act.put _ (some 81) _) _
    simp only [Act.put, List.setIfInBounds_toArray, List.set_cons_zero, List.set_cons_succ, Array.toArray_toList]
    refine wpAnyH_take (i := 13) (v := ?_) rfl (by kernel_rfl) (by kernel_rfl) (by kernel_rfl) (fun _ _ _ h => h) (Or.inl ⟨by rfl, ?_⟩) (by assumption) ?_
    rotate_left
    · intro w hSw; (try dsimp only at hSw); go_split_ands; go_simp; with_reducible rfl
    change wpAnyH _ _ _ _ _ _ _ (Act.put _ (some 82) _) _
    simp only [Act.put, List.setIfInBounds_toArray, List.set_cons_zero, List.set_cons_succ, Array.toArray_toList]
    refine wpAnyH_done (by kernel_rfl) ?_ _
    clear hHeld K0 hne
    have M0 := Lib.hid (Mq.out.sub (bl' := []) (ow' := []) (List.nil_sublist _) (List.nil_sublist _))
    clear Mq HCL HX HXL HWR HNX HSM HNE HC1 HN4
  case' neg =>
    have hokf : okN p q = false := by unfold wnOk at hok; simp [okN]; omega
    have hri := fun w => right12 p q w
    simp only [hokf] at hri
    have HRI := Lib.hid hri
    have HWB := Lib.hid (fun w => wnbytes_bad p q w (by unfold wnOk at hok; omega))
    have HCK := Lib.hid (fun w => check_no p q w (by unfold wnOk at hok; omega))
    clear hok hokf hri
    go_enter Try.func3, Try.ntmps3
    go_wp2_with fail
    refine (to12 _ _ _).mono ?_
    rintro e w1 ⟨rfl, hb⟩
    have Mq := Lib.hid (Mq.out.below hb)
    clear hb
    go_wp2_with fail
    refine (HWB.out _).mono ?_
    rintro e w2 ⟨rfl, hb⟩
    have Mq := Lib.hid (Mq.out.below hb).drew
    have K0 := Lib.hid (HCL.out _ _ Mq.out)
    clear hb
    go_upto_region 3 with fail
    refine wp_region_held_drew (S := fun w' => w'.cell? ⟨W.heap.size, 0, none⟩ = some (.int .i64 p) ∧ w'.cell? ⟨W.heap.size, 1, none⟩ = some (.int .i64 q) ∧ w'.cell? ⟨W.heap.size + 1, 0, none⟩ = some (.int .i64 r) ∧ w'.cell? ⟨W.heap.size + 1, 1, none⟩ = some (.int .i64 s)) (by kernel_rfl) ?_ (fun hHeld => ?_)
    · exact K0.out
    generalize World.drew w2 = w7 at Mq hHeld ⊢
    refine wpAnyH_take (i := 0) (v := ?_) rfl (by kernel_rfl) (by kernel_rfl) (by kernel_rfl) (fun _ _ _ h => h) (Or.inl ⟨by rfl, ?_⟩) (by assumption) ?_
    rotate_left
    · intro w hSw; (try dsimp only at hSw); go_split_ands; go_simp; with_reducible rfl
    change wpAnyH _ _ _ _ _ _ _ (Act.put _ (some 27) _) _
    simp only [Act.put, List.setIfInBounds_toArray, List.set_cons_zero, List.set_cons_succ, Array.toArray_toList]
    refine wpAnyH_take (i := 2) (v := ?_) rfl (by kernel_rfl) (by kernel_rfl) (by kernel_rfl) (fun _ _ _ h => h) (Or.inl ⟨by rfl, ?_⟩) (by assumption) ?_
    rotate_left
    · intro w hSw; (try dsimp only at hSw); go_split_ands; go_simp; with_reducible rfl
    change wpAnyH _ _ _ _ _ _ _ (Act.put _ (some 29) _) _
    simp only [Act.put, List.setIfInBounds_toArray, List.set_cons_zero, List.set_cons_succ, Array.toArray_toList]
    refine wpAnyH_take (i := 3) (v := ?_) rfl (by kernel_rfl) (by kernel_rfl) (by kernel_rfl) (fun _ _ _ h => h) (Or.inl ⟨by rfl, ?_⟩) (by assumption) ?_
    rotate_left
    · intro w hSw; (try dsimp only at hSw); go_split_ands; go_simp; with_reducible rfl
    change wpAnyH _ _ _ _ _ _ _ (Act.put _ (some 30) _) _
    simp only [Act.put, List.setIfInBounds_toArray, List.set_cons_zero, List.set_cons_succ, Array.toArray_toList]
    refine wpAnyH_ready (rs := [1]) (by kernel_rfl) (by simp) ?_
    refine (AllReadyH.cons rfl (fun K hK => ?_) AllReadyH.nil)
    go_simp
    (with_reducible refine (HRI.out _).mono ?_); rintro e wq ⟨rfl, hb⟩; have Mq := Lib.hid (Mq.out.below hb); clear hb
    go_wp2_with fail
    refine hK.out _ _ (by exact HCL.out _ _ Mq.out) (fun hHeld => ?_)
    clear hK K
    refine wpAnyH_take (i := 4) (v := ?_) rfl (by kernel_rfl) (by kernel_rfl) (by kernel_rfl) (fun _ _ _ h => h) (Or.inl ⟨by rfl, ?_⟩) (by assumption) ?_
    rotate_left
    · intro w hSw; (try dsimp only at hSw); go_split_ands; go_simp; with_reducible rfl
    change wpAnyH _ _ _ _ _ _ _ (Act.put _ (some 31) _) _
    simp only [Act.put, List.setIfInBounds_toArray, List.set_cons_zero, List.set_cons_succ, Array.toArray_toList]
    refine wpAnyH_take (i := 5) (v := ?_) rfl (by kernel_rfl) (by kernel_rfl) (by kernel_rfl) (fun _ _ _ h => h) (Or.inl ⟨by rfl, ?_⟩) (by assumption) ?_
    rotate_left
    · intro w hSw; (try dsimp only at hSw); go_split_ands; go_simp; with_reducible rfl
    change wpAnyH _ _ _ _ _ _ _ (Act.put _ (some 32) _) _
    simp only [Act.put, List.setIfInBounds_toArray, List.set_cons_zero, List.set_cons_succ, Array.toArray_toList]
    refine wpAnyH_take (i := 6) (v := ?_) rfl (by kernel_rfl) (by kernel_rfl) (by kernel_rfl) (fun _ _ _ h => h) (Or.inl ⟨by rfl, ?_⟩) (by assumption) ?_
    rotate_left
    · intro w hSw; (try dsimp only at hSw); go_split_ands; go_simp; with_reducible rfl
    change wpAnyH _ _ _ _ _ _ _ (Act.put _ (some 33) _) _
    simp only [Act.put, List.setIfInBounds_toArray, List.set_cons_zero, List.set_cons_succ, Array.toArray_toList]
    refine wpAnyH_take (i := 10) (v := ?_) rfl (by kernel_rfl) (by kernel_rfl) (by kernel_rfl) (fun _ _ _ h => h) (Or.inl ⟨by rfl, ?_⟩) (by assumption) ?_
    rotate_left
    · intro w hSw; (try dsimp only at hSw); go_split_ands; go_simp; with_reducible rfl
    change wpAnyH _ _ _ _ _ _ _ (Act.put _ (some 37) _) _
    simp only [Act.put, List.setIfInBounds_toArray, List.set_cons_zero, List.set_cons_succ, Array.toArray_toList]
    refine wpAnyH_ready (rs := [7]) (by kernel_rfl) (by simp) ?_
    refine (AllReadyH.cons rfl (fun K hK => ?_) AllReadyH.nil)
    go_simp
    (with_reducible refine (to12 _ _ _).mono ?_); rintro e wq ⟨rfl, hb⟩; have Mq := Lib.hid (Mq.out.below hb); clear hb
    go_wp2_with fail
    refine hK.out _ _ (by exact HCL.out _ _ Mq.out) (fun hHeld => ?_)
    clear hK K
    refine wpAnyH_ready (rs := [8]) (by kernel_rfl) (by simp) ?_
    refine (AllReadyH.cons rfl (fun K hK => ?_) AllReadyH.nil)
    go_simp
    (with_reducible refine (HCK.out _).mono ?_); rintro e wq ⟨rfl, hb⟩; have Mq := Lib.hid (Mq.out.below hb); clear hb
    go_wp2_with fail
    refine hK.out _ _ (by exact HCL.out _ _ Mq.out) (fun hHeld => ?_)
    clear hK K
    refine wpAnyH_take (i := 9) (v := ?_) rfl (by kernel_rfl) (by kernel_rfl) (by kernel_rfl) (fun _ _ _ h => h) (Or.inl ⟨by rfl, ?_⟩) (by assumption) ?_
    rotate_left
    · intro w hSw; (try dsimp only at hSw); go_split_ands; go_simp; with_reducible rfl
    change wpAnyH _ _ _ _ _ _ _ (Act.put _ (some 36) _) _
    simp only [Act.put, List.setIfInBounds_toArray, List.set_cons_zero, List.set_cons_succ, Array.toArray_toList]
    refine wpAnyH_ready (rs := [11]) (by kernel_rfl) (by simp) ?_
    refine (AllReadyH.cons rfl (fun K hK => ?_) AllReadyH.nil)
    go_simp
    (with_reducible refine (HRI.out _).mono ?_); rintro e wq ⟨rfl, hb⟩; have Mq := Lib.hid (Mq.out.below hb); clear hb
    go_wp2_with fail
    refine hK.out _ _ (by exact HCL.out _ _ Mq.out) (fun hHeld => ?_)
    clear hK K
    refine wpAnyH_take (i := 12) (v := ?_) rfl (by kernel_rfl) (by kernel_rfl) (by kernel_rfl) (fun _ _ _ h => h) (Or.inl ⟨by rfl, ?_⟩) (by assumption) ?_
    rotate_left
    · intro w hSw; (try dsimp only at hSw); go_split_ands; go_simp; with_reducible rfl
    change wpAnyH _ _ _ _ _ _ _ (Act.put _ (some 39) _) _
    simp only [Act.put, List.setIfInBounds_toArray, List.set_cons_zero, List.set_cons_succ, Array.toArray_toList]
    refine wpAnyH_take (i := 13) (v := ?_) rfl (by kernel_rfl) (by kernel_rfl) (by kernel_rfl) (fun _ _ _ h => h) (Or.inl ⟨by rfl, ?_⟩) (by assumption) ?_
    rotate_left
    · intro w hSw; (try dsimp only at hSw); go_split_ands; go_simp; with_reducible rfl
    change wpAnyH _ _ _ _ _ _ _ (Act.put _ (some 40) _) _
    simp only [Act.put, List.setIfInBounds_toArray, List.set_cons_zero, List.set_cons_succ, Array.toArray_toList]
    refine wpAnyH_take (i := 14) (v := ?_) rfl (by kernel_rfl) (by kernel_rfl) (by kernel_rfl) (fun _ _ _ h => h) (Or.inl ⟨by rfl, ?_⟩) (by assumption) ?_
    rotate_left
    · intro w hSw; (try dsimp only at hSw); go_split_ands; go_simp; with_reducible rfl
    change wpAnyH _ _ _ _ _ _ _ (Act.put _ (some 41) _) _
    simp only [Act.put, List.setIfInBounds_toArray, List.set_cons_zero, List.set_cons_succ, Array.toArray_toList]
    refine wpAnyH_take (i := 15) (v := ?_) rfl (by kernel_rfl) (by kernel_rfl) (by kernel_rfl) (fun _ _ _ h => h) (Or.inl ⟨by rfl, ?_⟩) (by assumption) ?_
    rotate_left
    · intro w hSw; (try dsimp only at hSw); go_split_ands; go_simp; with_reducible rfl
    change wpAnyH _ _ _ _ _ _ _ (Act.put _ (some 42) _) _
    simp only [Act.put, List.setIfInBounds_toArray, List.set_cons_zero, List.set_cons_succ, Array.toArray_toList]
    refine wpAnyH_take (i := 17) (v := ?_) rfl (by kernel_rfl) (by kernel_rfl) (by kernel_rfl) (fun _ _ _ h => h) (Or.inl ⟨by rfl, ?_⟩) (by assumption) ?_
    rotate_left
    · intro w hSw; (try dsimp only at hSw); go_split_ands; go_simp; with_reducible rfl
    change wpAnyH _ _ _ _ _ _ _ (Act.put _ (some 44) _) _
    simp only [Act.put, List.setIfInBounds_toArray, List.set_cons_zero, List.set_cons_succ, Array.toArray_toList]
    refine wpAnyH_take (i := 20) (v := ?_) rfl (by kernel_rfl) (by kernel_rfl) (by kernel_rfl) (fun _ _ _ h => h) (Or.inl ⟨by rfl, ?_⟩) (by assumption) ?_
    rotate_left
    · intro w hSw; (try dsimp only at hSw); go_split_ands; go_simp; with_reducible rfl
    change wpAnyH _ _ _ _ _ _ _ (Act.put _ (some 47) _) _
    simp only [Act.put, List.setIfInBounds_toArray, List.set_cons_zero, List.set_cons_succ, Array.toArray_toList]
    refine wpAnyH_take (i := 21) (v := ?_) rfl (by kernel_rfl) (by kernel_rfl) (by kernel_rfl) (fun _ _ _ h => h) (Or.inl ⟨by rfl, ?_⟩) (by assumption) ?_
    rotate_left
    · intro w hSw; (try dsimp only at hSw); go_split_ands; go_simp; with_reducible rfl
    change wpAnyH _ _ _ _ _ _ _ (Act.put _ (some 48) _) _
    simp only [Act.put, List.setIfInBounds_toArray, List.set_cons_zero, List.set_cons_succ, Array.toArray_toList]
    refine wpAnyH_ready (rs := [16]) (by kernel_rfl) (by simp) ?_
    refine (AllReadyH.cons rfl (fun K hK => ?_) AllReadyH.nil)
    go_simp
    (with_reducible refine (to12 _ _ _).mono ?_); rintro e wq ⟨rfl, hb⟩; have Mq := Lib.hid (Mq.out.below hb); clear hb
    go_wp2_with fail
    refine hK.out _ _ (by exact HCL.out _ _ Mq.out) (fun hHeld => ?_)
    clear hK K
    refine wpAnyH_ready (rs := [18]) (by kernel_rfl) (by simp) ?_
    refine (AllReadyH.cons rfl (fun K hK => ?_) AllReadyH.nil)
    go_simp
    (with_reducible refine (to12 _ _ _).mono ?_); rintro e wq ⟨rfl, hb⟩; have Mq := Lib.hid (Mq.out.below hb); clear hb
    go_wp2_with fail
    refine hK.out _ _ (by exact HCL.out _ _ Mq.out) (fun hHeld => ?_)
    clear hK K
    refine wpAnyH_ready (rs := [19]) (by kernel_rfl) (by simp) ?_
    refine (AllReadyH.cons rfl (fun K hK => ?_) AllReadyH.nil)
    go_simp
    (with_reducible refine (HWL.out _).mono ?_); rintro e wq ⟨rfl, hb⟩; have Mq := Lib.hid (Mq.out.below hb); clear hb
    go_wp2_with fail
    refine hK.out _ _ (by exact HCL.out _ _ Mq.out) (fun hHeld => ?_)
    clear hK K
    refine wpAnyH_ready (rs := [22]) (by kernel_rfl) (by simp) ?_
    refine (AllReadyH.cons rfl (fun K hK => ?_) AllReadyH.nil)
    go_simp
    (with_reducible refine (HRLS.out _).mono ?_); rintro e wq ⟨rfl, hb⟩; have Mq := Lib.hid (Mq.out.below hb); clear hb
    go_wp2_with fail
    refine hK.out _ _ (by exact HCL.out _ _ Mq.out) (fun hHeld => ?_)
    clear hK K
    refine wpAnyH_take (i := 23) (v := ?_) rfl (by kernel_rfl) (by kernel_rfl) (by kernel_rfl) (fun _ _ _ h => h) (Or.inl ⟨by rfl, ?_⟩) (by assumption) ?_
    rotate_left
    · intro w hSw; (try dsimp only at hSw); go_split_ands; go_simp; with_reducible rfl
    change wpAnyH _ _ _ _ _ _ _ (Act.put _ (some 50) _) _
    simp only [Act.put, List.setIfInBounds_toArray, List.set_cons_zero, List.set_cons_succ, Array.toArray_toList]
    refine wpAnyH_take (i := 24) (v := ?_) rfl (by kernel_rfl) (by kernel_rfl) (by kernel_rfl) (fun _ _ _ h => h) (Or.inl ⟨by rfl, ?_⟩) (by assumption) ?_
    rotate_left
    · intro w hSw; (try dsimp only at hSw); go_split_ands; go_simp; with_reducible rfl
    change wpAnyH _ _ _ _ _ _ _ (Act.put _ (some 51) _) _
    simp only [Act.put, List.setIfInBounds_toArray, List.set_cons_zero, List.set_cons_succ, Array.toArray_toList]
    refine wpAnyH_done (by kernel_rfl) ?_ _
    clear hHeld K0 HRI HWB HCK HWL HRLS
    have M0 := Lib.hid (Mq.out.sub (bl' := []) (ow' := []) (List.nil_sublist _) (List.nil_sublist _))
    clear Mq HCL
  all_goals
    go_wp2_with fail
    refine (HNEW.out _ M0.out ((HRL.out.below M0.out.bel).more M0.out.bel.size)).mono ?_
    rintro e w8 ⟨g, A1, c1, rfl, hg, h1⟩
    have H1 := Lib.hid h1
    clear h1 hg
    go_wp2_with fail
    refine (wnread_any W _ _ _ _ _ g _ H1.out).mono ?_
    rintro e w9 ⟨rfl, h2⟩
    rw [HNR.out] at h2 ⊢
    have H2 := Lib.hid h2
    clear h2 H1
    by_cases h6 : m < 6
    · have hq := wnRead_short (l := l') (by rw [HLN.out]; exact h6)
      have i6 : (m : Int) < 6 := by omega
      simp only [hq, wnV]
      clear hq
      go_wp2_with fail
      refine (known12 _).mono ?_
      rintro e w10 ⟨rfl, hb⟩
      have H3 := Lib.hid ((H2.out.newb 28 #[.int .i64 0, .int .i64 0]).below hb)
      have j0 := (H3.out.blk (x := (w9.heap.size, 28, #[.int .i64 0, .int .i64 0])) (by simp)).cell 0
      have j1 := (H3.out.blk (x := (w9.heap.size, 28, #[.int .i64 0, .int .i64 0])) (by simp)).cell 1
      simp at j0 j1
      clear hb
      go_wp2
      go_ret
      exact ⟨rfl, H3.out.belW⟩
    · obtain ⟨e1, e2, e3⟩ := wnRead_long (l := l') (by rw [HLN.out]; omega)
      obtain ⟨v1, v2⟩ := valB_two (l := l') (by rw [HLN.out]; omega)
      rw [v1] at e1
      rw [v2] at e2
      obtain ⟨b, o, rfl, hbw, hcell⟩ := HRL.out.at_ (by rw [HLN.out]; omega)
      have C0 := Lib.hid (hcell 0 _ (getD_atW (l := l') (by rw [HLN.out]; omega)))
      have C1 := Lib.hid (hcell 1 _ (getD_atW (l := l') (by rw [HLN.out]; omega)))
      have C2 := Lib.hid (hcell 2 _ (getD_atW (l := l') (by rw [HLN.out]; omega)))
      have C3 := Lib.hid (hcell 3 _ (getD_atW (l := l') (by rw [HLN.out]; omega)))
      have C4 := Lib.hid (hcell 4 _ (getD_atW (l := l') (by rw [HLN.out]; omega)))
      have C5 := Lib.hid (hcell 5 _ (getD_atW (l := l') (by rw [HLN.out]; omega)))
      have hlt0 := (l'.getD 0 0).toNat_lt
      have hlt1 := (l'.getD 1 0).toNat_lt
      have hlt2 := (l'.getD 2 0).toNat_lt
      have hlt3 := (l'.getD 3 0).toNat_lt
      have hlt4 := (l'.getD 4 0).toNat_lt
      have hlt5 := (l'.getD 5 0).toNat_lt
      obtain ⟨n0, hn0⟩ : ∃ n, (l'.getD 0 0).toNat = n := ⟨_, rfl⟩
      obtain ⟨n1, hn1⟩ : ∃ n, (l'.getD 1 0).toNat = n := ⟨_, rfl⟩
      obtain ⟨n2, hn2⟩ : ∃ n, (l'.getD 2 0).toNat = n := ⟨_, rfl⟩
      obtain ⟨n3, hn3⟩ : ∃ n, (l'.getD 3 0).toNat = n := ⟨_, rfl⟩
      obtain ⟨n4, hn4⟩ : ∃ n, (l'.getD 4 0).toNat = n := ⟨_, rfl⟩
      obtain ⟨n5, hn5⟩ : ∃ n, (l'.getD 5 0).toNat = n := ⟨_, rfl⟩
      rw [hn0, hn1] at e1
      rw [hn2, hn3, hn4, hn5] at e2
      rw [hn0] at C0 hlt0
      rw [hn1] at C1 hlt1
      rw [hn2] at C2 hlt2
      rw [hn3] at C3 hlt3
      rw [hn4] at C4 hlt4
      rw [hn5] at C5 hlt5
      have HCB := Lib.hid (show ∀ w', Below W.heap.size W w' → w'.cell? ⟨b, o, none⟩ = some (.int .u8 (n0 : Int)) ∧ w'.cell? ⟨b, o + 1, none⟩ = some (.int .u8 (n1 : Int)) ∧ w'.cell? ⟨b, o + 2, none⟩ = some (.int .u8 (n2 : Int)) ∧ w'.cell? ⟨b, o + 3, none⟩ = some (.int .u8 (n3 : Int)) ∧ w'.cell? ⟨b, o + 4, none⟩ = some (.int .u8 (n4 : Int)) ∧ w'.cell? ⟨b, o + 5, none⟩ = some (.int .u8 (n5 : Int)) from fun w' h =>
        ⟨(h.cell (p := ⟨b, o + 0, none⟩) hbw).trans C0.out, (h.cell (p := ⟨b, o + 1, none⟩) hbw).trans C1.out, (h.cell (p := ⟨b, o + 2, none⟩) hbw).trans C2.out, (h.cell (p := ⟨b, o + 3, none⟩) hbw).trans C3.out, (h.cell (p := ⟨b, o + 4, none⟩) hbw).trans C4.out, (h.cell (p := ⟨b, o + 5, none⟩) hbw).trans C5.out⟩)
      obtain ⟨X, hX⟩ : ∃ X, 256 * (n0 : Int) + (n1 : Int) = X := ⟨_, rfl⟩
      obtain ⟨Y, hY⟩ : ∃ Y, 16777216 * (n2 : Int) + 65536 * (n3 : Int) + 256 * (n4 : Int) + (n5 : Int) = Y := ⟨_, rfl⟩
      rw [hX] at e1
      rw [hY] at e2
      have HX := Lib.hid hX
      have HY := Lib.hid hY
      have hrd : wnRead (l', 0) = if wnOk X Y then ((X, Y), 0) else ((0, 0), 3) := by rw [wnRead, e1, e2, e3, if_neg (by simp)]
      obtain ⟨a1, a2, ae, hRR⟩ : ∃ a1 a2 ae, (if wnOk X Y then ((X, Y), (0 : Int)) else ((0, 0), 3)) = ((a1, a2), ae) := ⟨_, _, _, rfl⟩
      rw [hrd, hRR]
      rw [e3] at H2
      have HRR := Lib.hid hRR
      have hrt := fun w => right12 X Y w
      obtain ⟨rb, hrb⟩ : ∃ b, okN X Y = b := ⟨_, rfl⟩
      simp only [hrb] at hrt
      have HRT := Lib.hid hrt
      have HRB := Lib.hid hrb
      clear hrd e1 e2 e3 v1 v2 hX hY hcell hn0 hn1 hn2 hn3 hn4 hn5 hRR hrt hrb
      have i6 : ¬ (m : Int) < 6 := by omega
      have i7 : ¬ m < 6 := h6
      simp only [wnV]
      have H3 := Lib.hid ((H2.out.newb 28 #[.int .i64 a1, .int .i64 a2]).below ((Below.refl _ _).drew))
      have K1 := Lib.hid (HCB.out _ H3.out.belW)
      have u0 : IntKind.i64.wrap (n0 : Int) = n0 := IntWalk.i64_in _ (by omega)
      have u1 : IntKind.i64.wrap (n1 : Int) = n1 := IntWalk.i64_in _ (by omega)
      have u2 : IntKind.i64.wrap (n2 : Int) = n2 := IntWalk.i64_in _ (by omega)
      have u3 : IntKind.i64.wrap (n3 : Int) = n3 := IntWalk.i64_in _ (by omega)
      have u4 : IntKind.i64.wrap (n4 : Int) = n4 := IntWalk.i64_in _ (by omega)
      have u5 : IntKind.i64.wrap (n5 : Int) = n5 := IntWalk.i64_in _ (by omega)
      have t0 : IntKind.i64.wrap (256 * (n0 : Int)) = 256 * (n0 : Int) := IntWalk.i64_in _ (by omega)
      have t1 : IntKind.i64.wrap (256 * (n0 : Int) + (n1 : Int)) = X := by rw [HX.out]; exact IntWalk.i64_in _ (by have := HX.out; omega)
      have t2 : IntKind.i64.wrap (16777216 * (n2 : Int)) = 16777216 * (n2 : Int) := IntWalk.i64_in _ (by omega)
      have t3 : IntKind.i64.wrap (65536 * (n3 : Int)) = 65536 * (n3 : Int) := IntWalk.i64_in _ (by omega)
      have t4 : IntKind.i64.wrap (16777216 * (n2 : Int) + 65536 * (n3 : Int)) = 16777216 * (n2 : Int) + 65536 * (n3 : Int) := IntWalk.i64_in _ (by omega)
      have t5 : IntKind.i64.wrap (256 * (n4 : Int)) = 256 * (n4 : Int) := IntWalk.i64_in _ (by omega)
      have t6 : IntKind.i64.wrap (16777216 * (n2 : Int) + 65536 * (n3 : Int) + 256 * (n4 : Int)) = 16777216 * (n2 : Int) + 65536 * (n3 : Int) + 256 * (n4 : Int) := IntWalk.i64_in _ (by omega)
      have t7 : IntKind.i64.wrap (16777216 * (n2 : Int) + 65536 * (n3 : Int) + 256 * (n4 : Int) + (n5 : Int)) = Y := by rw [HY.out]; exact IntWalk.i64_in _ (by have := HY.out; omega)
      have g0 : 0 < m := by omega
      have g1 : (1 : Int) < m := by omega
      have g2 : (2 : Int) < m := by omega
      have g3 : (3 : Int) < m := by omega
      have g4 : (4 : Int) < m := by omega
      have g5 : (5 : Int) < m := by omega
      go_upto_region 16 with fail
      refine wp_region_held_drew (S := fun w' => w'.cell? ⟨b, o, none⟩ = some (.int .u8 (n0 : Int)) ∧ w'.cell? ⟨b, o + 1, none⟩ = some (.int .u8 (n1 : Int)) ∧ w'.cell? ⟨b, o + 2, none⟩ = some (.int .u8 (n2 : Int)) ∧ w'.cell? ⟨b, o + 3, none⟩ = some (.int .u8 (n3 : Int)) ∧ w'.cell? ⟨b, o + 4, none⟩ = some (.int .u8 (n4 : Int)) ∧ w'.cell? ⟨b, o + 5, none⟩ = some (.int .u8 (n5 : Int))) (by kernel_rfl) ?_ (fun hHeld => ?_)
      · exact K1.out
      generalize World.drew _ = w10 at H3 hHeld ⊢
      refine wpAnyH_take (i := 0) (v := ?_) rfl (by kernel_rfl) (by kernel_rfl) (by kernel_rfl) (fun _ _ _ h => h) (Or.inl ⟨by rfl, ?_⟩) (by assumption) ?_
      rotate_left
      · intro w hSw; (try dsimp only at hSw); go_split_ands; go_simp; with_reducible rfl
      change wpAnyH _ _ _ _ _ _ _ (Act.put _ (some 110) _) _
      simp only [Act.put, List.setIfInBounds_toArray, List.set_cons_zero, List.set_cons_succ, Array.toArray_toList]
      refine wpAnyH_take (i := 1) (v := ?_) rfl (by kernel_rfl) (by kernel_rfl) (by kernel_rfl) (fun _ _ _ h => h) (Or.inl ⟨by rfl, ?_⟩) (by assumption) ?_
      rotate_left
      · intro w hSw; (try dsimp only at hSw); go_split_ands; go_simp; with_reducible rfl
      change wpAnyH _ _ _ _ _ _ _ (Act.put _ (some 111) _) _
      simp only [Act.put, List.setIfInBounds_toArray, List.set_cons_zero, List.set_cons_succ, Array.toArray_toList]
      refine wpAnyH_take (i := 2) (v := ?_) rfl (by kernel_rfl) (by kernel_rfl) (by kernel_rfl) (fun _ _ _ h => h) (Or.inl ⟨by rfl, ?_⟩) (by assumption) ?_
      rotate_left
      · intro w hSw; (try dsimp only at hSw); go_split_ands; go_simp; with_reducible rfl
      change wpAnyH _ _ _ _ _ _ _ (Act.put _ (some 112) _) _
      simp only [Act.put, List.setIfInBounds_toArray, List.set_cons_zero, List.set_cons_succ, Array.toArray_toList]
      refine wpAnyH_take (i := 3) (v := ?_) rfl (by kernel_rfl) (by kernel_rfl) (by kernel_rfl) (fun _ _ _ h => h) (Or.inl ⟨by rfl, ?_⟩) (by assumption) ?_
      rotate_left
      · intro w hSw; (try dsimp only at hSw); go_split_ands; go_simp; with_reducible rfl
      change wpAnyH _ _ _ _ _ _ _ (Act.put _ (some 113) _) _
      simp only [Act.put, List.setIfInBounds_toArray, List.set_cons_zero, List.set_cons_succ, Array.toArray_toList]
      refine wpAnyH_take (i := 4) (v := ?_) rfl (by kernel_rfl) (by kernel_rfl) (by kernel_rfl) (fun _ _ _ h => h) (Or.inl ⟨by rfl, ?_⟩) (by assumption) ?_
      rotate_left
      · intro w hSw; (try dsimp only at hSw); go_split_ands; go_simp; with_reducible rfl
      change wpAnyH _ _ _ _ _ _ _ (Act.put _ (some 114) _) _
      simp only [Act.put, List.setIfInBounds_toArray, List.set_cons_zero, List.set_cons_succ, Array.toArray_toList]
      refine wpAnyH_take (i := 5) (v := ?_) rfl (by kernel_rfl) (by kernel_rfl) (by kernel_rfl) (fun _ _ _ h => h) (Or.inl ⟨by rfl, ?_⟩) (by assumption) ?_
      rotate_left
      · intro w hSw; (try dsimp only at hSw); go_split_ands; go_simp; with_reducible rfl
      change wpAnyH _ _ _ _ _ _ _ (Act.put _ (some 115) _) _
      simp only [Act.put, List.setIfInBounds_toArray, List.set_cons_zero, List.set_cons_succ, Array.toArray_toList]
      refine wpAnyH_take (i := 6) (v := ?_) rfl (by kernel_rfl) (by kernel_rfl) (by kernel_rfl) (fun _ _ _ h => h) (Or.inl ⟨by rfl, ?_⟩) (by assumption) ?_
      rotate_left
      · intro w hSw; (try dsimp only at hSw); go_split_ands; go_simp; with_reducible rfl
      change wpAnyH _ _ _ _ _ _ _ (Act.put _ (some 116) _) _
      simp only [Act.put, List.setIfInBounds_toArray, List.set_cons_zero, List.set_cons_succ, Array.toArray_toList]
      refine wpAnyH_take (i := 7) (v := ?_) rfl (by kernel_rfl) (by kernel_rfl) (by kernel_rfl) (fun _ _ _ h => h) (Or.inl ⟨by rfl, ?_⟩) (by assumption) ?_
      rotate_left
      · intro w hSw; (try dsimp only at hSw); go_split_ands; go_simp; with_reducible rfl
      change wpAnyH _ _ _ _ _ _ _ (Act.put _ (some 117) _) _
      simp only [Act.put, List.setIfInBounds_toArray, List.set_cons_zero, List.set_cons_succ, Array.toArray_toList]
      refine wpAnyH_take (i := 8) (v := ?_) rfl (by kernel_rfl) (by kernel_rfl) (by kernel_rfl) (fun _ _ _ h => h) (Or.inl ⟨by rfl, ?_⟩) (by assumption) ?_
      rotate_left
      · intro w hSw; (try dsimp only at hSw); go_split_ands; go_simp; with_reducible rfl
      change wpAnyH _ _ _ _ _ _ _ (Act.put _ (some 118) _) _
      simp only [Act.put, List.setIfInBounds_toArray, List.set_cons_zero, List.set_cons_succ, Array.toArray_toList]
      refine wpAnyH_take (i := 9) (v := ?_) rfl (by kernel_rfl) (by kernel_rfl) (by kernel_rfl) (fun _ _ _ h => h) (Or.inl ⟨by rfl, ?_⟩) (by assumption) ?_
      rotate_left
      · intro w hSw; (try dsimp only at hSw); go_split_ands; go_simp; with_reducible rfl
      change wpAnyH _ _ _ _ _ _ _ (Act.put _ (some 119) _) _
      simp only [Act.put, List.setIfInBounds_toArray, List.set_cons_zero, List.set_cons_succ, Array.toArray_toList]
      refine wpAnyH_take (i := 10) (v := ?_) rfl (by kernel_rfl) (by kernel_rfl) (by kernel_rfl) (fun _ _ _ h => h) (Or.inl ⟨by rfl, ?_⟩) (by assumption) ?_
      rotate_left
      · intro w hSw; (try dsimp only at hSw); go_split_ands; go_simp; with_reducible rfl
      change wpAnyH _ _ _ _ _ _ _ (Act.put _ (some 120) _) _
      simp only [Act.put, List.setIfInBounds_toArray, List.set_cons_zero, List.set_cons_succ, Array.toArray_toList]
      refine wpAnyH_take (i := 11) (v := ?_) rfl (by kernel_rfl) (by kernel_rfl) (by kernel_rfl) (fun _ _ _ h => h) (Or.inl ⟨by rfl, ?_⟩) (by assumption) ?_
      rotate_left
      · intro w hSw; (try dsimp only at hSw); go_split_ands; go_simp; with_reducible rfl
      change wpAnyH _ _ _ _ _ _ _ (Act.put _ (some 121) _) _
      simp only [Act.put, List.setIfInBounds_toArray, List.set_cons_zero, List.set_cons_succ, Array.toArray_toList]
      refine wpAnyH_take (i := 12) (v := ?_) rfl (by kernel_rfl) (by kernel_rfl) (by kernel_rfl) (fun _ _ _ h => h) (Or.inl ⟨by rfl, ?_⟩) (by assumption) ?_
      rotate_left
      · intro w hSw; (try dsimp only at hSw); go_split_ands; go_simp; with_reducible rfl
      change wpAnyH _ _ _ _ _ _ _ (Act.put _ (some 122) _) _
      simp only [Act.put, List.setIfInBounds_toArray, List.set_cons_zero, List.set_cons_succ, Array.toArray_toList]
      refine wpAnyH_take (i := 13) (v := ?_) rfl (by kernel_rfl) (by kernel_rfl) (by kernel_rfl) (fun _ _ _ h => h) (Or.inl ⟨by rfl, ?_⟩) (by assumption) ?_
      rotate_left
      · intro w hSw; (try dsimp only at hSw); go_split_ands; go_simp; with_reducible rfl
      change wpAnyH _ _ _ _ _ _ _ (Act.put _ (some 123) _) _
      simp only [Act.put, List.setIfInBounds_toArray, List.set_cons_zero, List.set_cons_succ, Array.toArray_toList]
      refine wpAnyH_take (i := 14) (v := ?_) rfl (by kernel_rfl) (by kernel_rfl) (by kernel_rfl) (fun _ _ _ h => h) (Or.inl ⟨by rfl, ?_⟩) (by assumption) ?_
      rotate_left
      · intro w hSw; (try dsimp only at hSw); go_split_ands; go_simp; with_reducible rfl
      change wpAnyH _ _ _ _ _ _ _ (Act.put _ (some 124) _) _
      simp only [Act.put, List.setIfInBounds_toArray, List.set_cons_zero, List.set_cons_succ, Array.toArray_toList]
      refine wpAnyH_take (i := 15) (v := ?_) rfl (by kernel_rfl) (by kernel_rfl) (by kernel_rfl) (fun _ _ _ h => h) (Or.inl ⟨by rfl, ?_⟩) (by assumption) ?_
      rotate_left
      · intro w hSw; (try dsimp only at hSw); go_split_ands; go_simp; with_reducible rfl
      change wpAnyH _ _ _ _ _ _ _ (Act.put _ (some 125) _) _
      simp only [Act.put, List.setIfInBounds_toArray, List.set_cons_zero, List.set_cons_succ, Array.toArray_toList]
      refine wpAnyH_take (i := 16) (v := ?_) rfl (by kernel_rfl) (by kernel_rfl) (by kernel_rfl) (fun _ _ _ h => h) (Or.inl ⟨by rfl, ?_⟩) (by assumption) ?_
      rotate_left
      · intro w hSw; (try dsimp only at hSw); go_split_ands; go_simp; with_reducible rfl
      change wpAnyH _ _ _ _ _ _ _ (Act.put _ (some 126) _) _
      simp only [Act.put, List.setIfInBounds_toArray, List.set_cons_zero, List.set_cons_succ, Array.toArray_toList]
      refine wpAnyH_take (i := 17) (v := ?_) rfl (by kernel_rfl) (by kernel_rfl) (by kernel_rfl) (fun _ _ _ h => h) (Or.inl ⟨by rfl, ?_⟩) (by assumption) ?_
      rotate_left
      · intro w hSw; (try dsimp only at hSw); go_split_ands; go_simp; with_reducible rfl
      change wpAnyH _ _ _ _ _ _ _ (Act.put _ (some 127) _) _
      simp only [Act.put, List.setIfInBounds_toArray, List.set_cons_zero, List.set_cons_succ, Array.toArray_toList]
      refine wpAnyH_take (i := 18) (v := ?_) rfl (by kernel_rfl) (by kernel_rfl) (by kernel_rfl) (fun _ _ _ h => h) (Or.inl ⟨by rfl, ?_⟩) (by assumption) ?_
      rotate_left
      · intro w hSw; (try dsimp only at hSw); go_split_ands; go_simp; with_reducible rfl
      change wpAnyH _ _ _ _ _ _ _ (Act.put _ (some 128) _) _
      simp only [Act.put, List.setIfInBounds_toArray, List.set_cons_zero, List.set_cons_succ, Array.toArray_toList]
      refine wpAnyH_take (i := 19) (v := ?_) rfl (by kernel_rfl) (by kernel_rfl) (by kernel_rfl) (fun _ _ _ h => h) (Or.inl ⟨by rfl, ?_⟩) (by assumption) ?_
      rotate_left
      · intro w hSw; (try dsimp only at hSw); go_split_ands; go_simp; with_reducible rfl
      change wpAnyH _ _ _ _ _ _ _ (Act.put _ (some 129) _) _
      simp only [Act.put, List.setIfInBounds_toArray, List.set_cons_zero, List.set_cons_succ, Array.toArray_toList]
      refine wpAnyH_take (i := 20) (v := ?_) rfl (by kernel_rfl) (by kernel_rfl) (by kernel_rfl) (fun _ _ _ h => h) (Or.inl ⟨by rfl, ?_⟩) (by assumption) ?_
      rotate_left
      · intro w hSw; (try dsimp only at hSw); go_split_ands; go_simp; with_reducible rfl
      change wpAnyH _ _ _ _ _ _ _ (Act.put _ (some 130) _) _
      simp only [Act.put, List.setIfInBounds_toArray, List.set_cons_zero, List.set_cons_succ, Array.toArray_toList]
      refine wpAnyH_take (i := 21) (v := ?_) rfl (by kernel_rfl) (by kernel_rfl) (by kernel_rfl) (fun _ _ _ h => h) (Or.inl ⟨by rfl, ?_⟩) (by assumption) ?_
      rotate_left
      · intro w hSw; (try dsimp only at hSw); go_split_ands; go_simp; with_reducible rfl
      change wpAnyH _ _ _ _ _ _ _ (Act.put _ (some 131) _) _
      simp only [Act.put, List.setIfInBounds_toArray, List.set_cons_zero, List.set_cons_succ, Array.toArray_toList]
      refine wpAnyH_take (i := 22) (v := ?_) rfl (by kernel_rfl) (by kernel_rfl) (by kernel_rfl) (fun _ _ _ h => h) (Or.inl ⟨by rfl, ?_⟩) (by assumption) ?_
      rotate_left
      · intro w hSw; (try dsimp only at hSw); go_split_ands; go_simp; with_reducible rfl
      change wpAnyH _ _ _ _ _ _ _ (Act.put _ (some 132) _) _
      simp only [Act.put, List.setIfInBounds_toArray, List.set_cons_zero, List.set_cons_succ, Array.toArray_toList]
      refine wpAnyH_take (i := 23) (v := ?_) rfl (by kernel_rfl) (by kernel_rfl) (by kernel_rfl) (fun _ _ _ h => h) (Or.inl ⟨by rfl, ?_⟩) (by assumption) ?_
      rotate_left
      · intro w hSw; (try dsimp only at hSw); go_split_ands; go_simp; with_reducible rfl
      change wpAnyH _ _ _ _ _ _ _ (Act.put _ (some 133) _) _
      simp only [Act.put, List.setIfInBounds_toArray, List.set_cons_zero, List.set_cons_succ, Array.toArray_toList]
      refine wpAnyH_take (i := 24) (v := ?_) rfl (by kernel_rfl) (by kernel_rfl) (by kernel_rfl) (fun _ _ _ h => h) (Or.inl ⟨by rfl, ?_⟩) (by assumption) ?_
      rotate_left
      · intro w hSw; (try dsimp only at hSw); go_split_ands; go_simp; with_reducible rfl
      change wpAnyH _ _ _ _ _ _ _ (Act.put _ (some 134) _) _
      simp only [Act.put, List.setIfInBounds_toArray, List.set_cons_zero, List.set_cons_succ, Array.toArray_toList]
      refine wpAnyH_take (i := 25) (v := ?_) rfl (by kernel_rfl) (by kernel_rfl) (by kernel_rfl) (fun _ _ _ h => h) (Or.inl ⟨by rfl, ?_⟩) (by assumption) ?_
      rotate_left
      · intro w hSw; (try dsimp only at hSw); go_split_ands; go_simp; with_reducible rfl
      change wpAnyH _ _ _ _ _ _ _ (Act.put _ (some 135) _) _
      simp only [Act.put, List.setIfInBounds_toArray, List.set_cons_zero, List.set_cons_succ, Array.toArray_toList]
      refine wpAnyH_take (i := 26) (v := ?_) rfl (by kernel_rfl) (by kernel_rfl) (by kernel_rfl) (fun _ _ _ h => h) (Or.inl ⟨by rfl, ?_⟩) (by assumption) ?_
      rotate_left
      · intro w hSw; (try dsimp only at hSw); go_split_ands; go_simp; with_reducible rfl
      change wpAnyH _ _ _ _ _ _ _ (Act.put _ (some 136) _) _
      simp only [Act.put, List.setIfInBounds_toArray, List.set_cons_zero, List.set_cons_succ, Array.toArray_toList]
      refine wpAnyH_take (i := 27) (v := ?_) rfl (by kernel_rfl) (by kernel_rfl) (by kernel_rfl) (fun _ _ _ h => h) (Or.inl ⟨by rfl, ?_⟩) (by assumption) ?_
      rotate_left
      · intro w hSw; (try dsimp only at hSw); go_split_ands; go_simp; with_reducible rfl
      change wpAnyH _ _ _ _ _ _ _ (Act.put _ (some 137) _) _
      simp only [Act.put, List.setIfInBounds_toArray, List.set_cons_zero, List.set_cons_succ, Array.toArray_toList]
      refine wpAnyH_take (i := 28) (v := ?_) rfl (by kernel_rfl) (by kernel_rfl) (by kernel_rfl) (fun _ _ _ h => h) (Or.inl ⟨by rfl, ?_⟩) (by assumption) ?_
      rotate_left
      · intro w hSw; (try dsimp only at hSw); go_split_ands; go_simp; with_reducible rfl
      change wpAnyH _ _ _ _ _ _ _ (Act.put _ (some 138) _) _
      simp only [Act.put, List.setIfInBounds_toArray, List.set_cons_zero, List.set_cons_succ, Array.toArray_toList]
      refine wpAnyH_take (i := 29) (v := ?_) rfl (by kernel_rfl) (by kernel_rfl) (by kernel_rfl) (fun _ _ _ h => h) (Or.inl ⟨by rfl, ?_⟩) (by assumption) ?_
      rotate_left
      · intro w hSw; (try dsimp only at hSw); go_split_ands; go_simp; with_reducible rfl
      change wpAnyH _ _ _ _ _ _ _ (Act.put _ (some 139) _) _
      simp only [Act.put, List.setIfInBounds_toArray, List.set_cons_zero, List.set_cons_succ, Array.toArray_toList]
      refine wpAnyH_take (i := 30) (v := ?_) rfl (by kernel_rfl) (by kernel_rfl) (by kernel_rfl) (fun _ _ _ h => h) (Or.inl ⟨by rfl, ?_⟩) (by assumption) ?_
      rotate_left
      · intro w hSw; (try dsimp only at hSw); go_split_ands; go_simp; with_reducible rfl
      change wpAnyH _ _ _ _ _ _ _ (Act.put _ (some 140) _) _
      simp only [Act.put, List.setIfInBounds_toArray, List.set_cons_zero, List.set_cons_succ, Array.toArray_toList]
      refine wpAnyH_take (i := 31) (v := ?_) rfl (by kernel_rfl) (by kernel_rfl) (by kernel_rfl) (fun _ _ _ h => h) (Or.inl ⟨by rfl, ?_⟩) (by assumption) ?_
      rotate_left
      · intro w hSw; (try dsimp only at hSw); go_split_ands; go_simp; with_reducible rfl
      change wpAnyH _ _ _ _ _ _ _ (Act.put _ (some 141) _) _
      simp only [Act.put, List.setIfInBounds_toArray, List.set_cons_zero, List.set_cons_succ, Array.toArray_toList]
      refine wpAnyH_take (i := 32) (v := ?_) rfl (by kernel_rfl) (by kernel_rfl) (by kernel_rfl) (fun _ _ _ h => h) (Or.inl ⟨by rfl, ?_⟩) (by assumption) ?_
      rotate_left
      · intro w hSw; (try dsimp only at hSw); go_split_ands; go_simp; with_reducible rfl
      change wpAnyH _ _ _ _ _ _ _ (Act.put _ (some 142) _) _
      simp only [Act.put, List.setIfInBounds_toArray, List.set_cons_zero, List.set_cons_succ, Array.toArray_toList]
      refine wpAnyH_ready (rs := [33]) (by kernel_rfl) (by simp) ?_
      refine (AllReadyH.cons rfl (fun K hK => ?_) AllReadyH.nil)
      go_simp; generalize hwq : World.alloc _ _ = wq; obtain ⟨g6, hg6⟩ : ∃ g, w10.heap.size = g := ⟨_, rfl⟩; rw [hg6]; have H3 := Lib.hid (show RrX W ((g6, 23, #[.int .i64 0, .int .i64 0]) :: _) _ _ _ g _ wq from by rw [← hwq, ← hg6]; exact H3.out.newb _ _); clear hwq
      refine hK.out _ _ (by exact HCB.out _ H3.out.belW) (fun hHeld => ?_)
      clear hK K
      refine wpAnyH_ready (rs := [34]) (by kernel_rfl) (by simp) ?_
      refine (AllReadyH.cons rfl (fun K hK => ?_) AllReadyH.nil)
      refine step_store_rowW rfl _ _ _ rfl g6 #[.int .i64 X, .int .i64 Y] rfl rfl 23 _ (H3.out.blk (x := (g6, 23, #[.int .i64 0, .int .i64 0])) (by simp)) info_n12 rfl (all2W _ _) ?_; have H3 := Lib.hid (H3.out.setRow #[.int .i64 X, .int .i64 Y]); generalize World.setRow _ _ _ = wq at H3 ⊢
      refine hK.out _ _ (by exact HCB.out _ H3.out.belW) (fun hHeld => ?_)
      clear hK K
      refine wpAnyH_done (by kernel_rfl) ?_ _
      clear hHeld K1 u0 u1 u2 u3 u4 u5 t0 t1 t2 t3 t4 t5 t6 t7 g0 g1 g2 g3 g4 g5 hg6
      have d0 := (H3.out.blk (x := (g6, 23, #[.int .i64 X, .int .i64 Y])) (by simp)).cell 0
      have d1 := (H3.out.blk (x := (g6, 23, #[.int .i64 X, .int .i64 Y])) (by simp)).cell 1
      simp at d0 d1
      go_wp2_with fail
      refine (HRT.out _).mono ?_
      rintro e w11 ⟨rfl, hb⟩
      have H3 := Lib.hid (H3.out.below hb)
      clear hb d0 d1
      by_cases hw : wnOk X Y
      · have hr : rb = true := by rw [← HRB.out]; unfold wnOk at hw; simp [okN]; omega
        have hq := HRR.out
        rw [if_pos hw] at hq
        obtain ⟨⟨rfl, rfl⟩, rfl⟩ : (X = a1 ∧ Y = a2) ∧ 0 = ae := by simpa using hq
        subst hr
        clear hq HRR HRB
        have HLF := Lib.hid (show ∀ w xb xr bl ow, RrX W xb xr bl ow g (l'.drop 6, 0) w → Calls Try.prog 25 #[.pointer (some ⟨g, 0, none⟩)] w fun e w' => e = .returned (.int .i64 ((m : Int) - 6)) ∧ w = w' from by
          intro w xb xr bl ow h
          have := left_any W w xb xr bl ow g _ h
          have e : (((l'.drop 6).length : Nat) : Int) = (m : Int) - 6 := by have := HLN.out; rw [List.length_drop]; omega
          rw [e] at this
          exact this)
        have heq := fun w => eq_refNonce w X Y X Y
        simp only [eq2, beq_self_eq_true, Bool.and_self] at heq
        have HEQ := Lib.hid heq
        have wm : IntKind.i64.wrap ((m : Int) - 6) = (m : Int) - 6 := IntWalk.i64_in _ (by omega)
        have H3 := Lib.hid (H3.out.below ((Below.refl _ _).drew))
        have HCE := Lib.hid (show ∀ w', RrX W [(g6, 23, #[.int .i64 X, .int .i64 Y]), (w9.heap.size, 28, #[.int .i64 X, .int .i64 Y])] [] [] [⟨5, 1, .slice A1 l'.length c1, l'.length, by8 l'⟩] g (l'.drop 6, 0) w' → w'.cell? ⟨w9.heap.size, 0, none⟩ = some (.int .i64 X) ∧ w'.cell? ⟨w9.heap.size, 1, none⟩ = some (.int .i64 Y) ∧ w'.cell? ⟨g6, 0, none⟩ = some (.int .i64 X) ∧ w'.cell? ⟨g6, 1, none⟩ = some (.int .i64 Y) from fun w' h => ⟨(h.blk (x := (w9.heap.size, 28, #[.int .i64 X, .int .i64 Y])) (by simp)).cell 0, (h.blk (x := (w9.heap.size, 28, #[.int .i64 X, .int .i64 Y])) (by simp)).cell 1, (h.blk (x := (g6, 23, #[.int .i64 X, .int .i64 Y])) (by simp)).cell 0, (h.blk (x := (g6, 23, #[.int .i64 X, .int .i64 Y])) (by simp)).cell 1⟩)
        have K1 := Lib.hid (HCE.out _ (by have := H3.out; exact this))
        clear heq
        go_upto_region 19 with fail
        refine wp_region_held_drew (S := fun w' => w'.cell? ⟨w9.heap.size, 0, none⟩ = some (.int .i64 X) ∧ w'.cell? ⟨w9.heap.size, 1, none⟩ = some (.int .i64 Y) ∧ w'.cell? ⟨g6, 0, none⟩ = some (.int .i64 X) ∧ w'.cell? ⟨g6, 1, none⟩ = some (.int .i64 Y)) (by kernel_rfl) ?_ (fun hHeld => ?_)
        · exact K1.out
        generalize World.drew _ = w7 at H3 hHeld ⊢
        refine wpAnyH_ready (rs := [0]) (by kernel_rfl) (by simp) ?_
        refine (AllReadyH.cons rfl (fun K hK => ?_) AllReadyH.nil)
        go_simp
        (with_reducible refine (known12 _).mono ?_); rintro e wq ⟨rfl, hb⟩; have H3 := Lib.hid (H3.out.below hb); clear hb
        go_wp2_with fail
        refine hK.out _ _ (by exact HCE.out _ H3.out) (fun hHeld => ?_)
        clear hK K
        refine wpAnyH_take (i := 1) (v := ?_) rfl (by kernel_rfl) (by kernel_rfl) (by kernel_rfl) (fun _ _ _ h => h) (Or.inl ⟨by rfl, ?_⟩) (by assumption) ?_
        rotate_left
        · intro w hSw; (try dsimp only at hSw); go_split_ands; go_simp; with_reducible rfl
        change wpAnyH _ _ _ _ _ _ _ (Act.put _ (some 157) _) _
        simp only [Act.put, List.setIfInBounds_toArray, List.set_cons_zero, List.set_cons_succ, Array.toArray_toList]
        refine wpAnyH_take (i := 2) (v := ?_) rfl (by kernel_rfl) (by kernel_rfl) (by kernel_rfl) (fun _ _ _ h => h) (Or.inl ⟨by rfl, ?_⟩) (by assumption) ?_
        rotate_left
        · intro w hSw; (try dsimp only at hSw); go_split_ands; go_simp; with_reducible rfl
        change wpAnyH _ _ _ _ _ _ _ (Act.put _ (some 158) _) _
        simp only [Act.put, List.setIfInBounds_toArray, List.set_cons_zero, List.set_cons_succ, Array.toArray_toList]
        refine wpAnyH_take (i := 3) (v := ?_) rfl (by kernel_rfl) (by kernel_rfl) (by kernel_rfl) (fun _ _ _ h => h) (Or.inl ⟨by rfl, ?_⟩) (by assumption) ?_
        rotate_left
        · intro w hSw; (try dsimp only at hSw); go_split_ands; go_simp; with_reducible rfl
        change wpAnyH _ _ _ _ _ _ _ (Act.put _ (some 159) _) _
        simp only [Act.put, List.setIfInBounds_toArray, List.set_cons_zero, List.set_cons_succ, Array.toArray_toList]
        refine wpAnyH_take (i := 4) (v := ?_) rfl (by kernel_rfl) (by kernel_rfl) (by kernel_rfl) (fun _ _ _ h => h) (Or.inl ⟨by rfl, ?_⟩) (by assumption) ?_
        rotate_left
        · intro w hSw; (try dsimp only at hSw); go_split_ands; go_simp; with_reducible rfl
        change wpAnyH _ _ _ _ _ _ _ (Act.put _ (some 160) _) _
        simp only [Act.put, List.setIfInBounds_toArray, List.set_cons_zero, List.set_cons_succ, Array.toArray_toList]
        refine wpAnyH_take (i := 5) (v := ?_) rfl (by kernel_rfl) (by kernel_rfl) (by kernel_rfl) (fun _ _ _ h => h) (Or.inl ⟨by rfl, ?_⟩) (by assumption) ?_
        rotate_left
        · intro w hSw; (try dsimp only at hSw); go_split_ands; go_simp; with_reducible rfl
        change wpAnyH _ _ _ _ _ _ _ (Act.put _ (some 161) _) _
        simp only [Act.put, List.setIfInBounds_toArray, List.set_cons_zero, List.set_cons_succ, Array.toArray_toList]
        refine wpAnyH_take (i := 6) (v := ?_) rfl (by kernel_rfl) (by kernel_rfl) (by kernel_rfl) (fun _ _ _ h => h) (Or.inl ⟨by rfl, ?_⟩) (by assumption) ?_
        rotate_left
        · intro w hSw; (try dsimp only at hSw); go_split_ands; go_simp; with_reducible rfl
        change wpAnyH _ _ _ _ _ _ _ (Act.put _ (some 162) _) _
        simp only [Act.put, List.setIfInBounds_toArray, List.set_cons_zero, List.set_cons_succ, Array.toArray_toList]
        refine wpAnyH_take (i := 8) (v := ?_) rfl (by kernel_rfl) (by kernel_rfl) (by kernel_rfl) (fun _ _ _ h => h) (Or.inl ⟨by rfl, ?_⟩) (by assumption) ?_
        rotate_left
        · intro w hSw; (try dsimp only at hSw); go_split_ands; go_simp; with_reducible rfl
        change wpAnyH _ _ _ _ _ _ _ (Act.put _ (some 164) _) _
        simp only [Act.put, List.setIfInBounds_toArray, List.set_cons_zero, List.set_cons_succ, Array.toArray_toList]
        refine wpAnyH_ready (rs := [7]) (by kernel_rfl) (by simp) ?_
        refine (AllReadyH.cons rfl (fun K hK => ?_) AllReadyH.nil)
        go_simp
        (with_reducible refine (of12 _ _ _).mono ?_); rintro e wq ⟨rfl, hb⟩; have H3 := Lib.hid (H3.out.below hb); have heq := HEQ.out; clear hb
        go_wp2_with fail
        refine hK.out _ _ (by exact HCE.out _ H3.out) (fun hHeld => ?_)
        clear hK K
        refine wpAnyH_take (i := 9) (v := ?_) rfl (by kernel_rfl) (by kernel_rfl) (by kernel_rfl) (fun _ _ _ h => h) (Or.inl ⟨by rfl, ?_⟩) (by assumption) ?_
        rotate_left
        · intro w hSw; (try dsimp only at hSw); go_split_ands; go_simp; with_reducible rfl
        change wpAnyH _ _ _ _ _ _ _ (Act.put _ (some 165) _) _
        simp only [Act.put, List.setIfInBounds_toArray, List.set_cons_zero, List.set_cons_succ, Array.toArray_toList]
        refine wpAnyH_take (i := 10) (v := ?_) rfl (by kernel_rfl) (by kernel_rfl) (by kernel_rfl) (fun _ _ _ h => h) (Or.inl ⟨by rfl, ?_⟩) (by assumption) ?_
        rotate_left
        · intro w hSw; (try dsimp only at hSw); go_split_ands; go_simp; with_reducible rfl
        change wpAnyH _ _ _ _ _ _ _ (Act.put _ (some 166) _) _
        simp only [Act.put, List.setIfInBounds_toArray, List.set_cons_zero, List.set_cons_succ, Array.toArray_toList]
        refine wpAnyH_take (i := 11) (v := ?_) rfl (by kernel_rfl) (by kernel_rfl) (by kernel_rfl) (fun _ _ _ h => h) (Or.inl ⟨by rfl, ?_⟩) (by assumption) ?_
        rotate_left
        · intro w hSw; (try dsimp only at hSw); go_split_ands; go_simp; with_reducible rfl
        change wpAnyH _ _ _ _ _ _ _ (Act.put _ (some 167) _) _
        simp only [Act.put, List.setIfInBounds_toArray, List.set_cons_zero, List.set_cons_succ, Array.toArray_toList]
        refine wpAnyH_take (i := 12) (v := ?_) rfl (by kernel_rfl) (by kernel_rfl) (by kernel_rfl) (fun _ _ _ h => h) (Or.inl ⟨by rfl, ?_⟩) (by assumption) ?_
        rotate_left
        · intro w hSw; (try dsimp only at hSw); go_split_ands; go_simp; with_reducible rfl
        change wpAnyH _ _ _ _ _ _ _ (Act.put _ (some 168) _) _
        simp only [Act.put, List.setIfInBounds_toArray, List.set_cons_zero, List.set_cons_succ, Array.toArray_toList]
        refine wpAnyH_take (i := 14) (v := ?_) rfl (by kernel_rfl) (by kernel_rfl) (by kernel_rfl) (fun _ _ _ h => h) (Or.inl ⟨by rfl, ?_⟩) (by assumption) ?_
        rotate_left
        · intro w hSw; (try dsimp only at hSw); go_split_ands; go_simp; with_reducible rfl
        change wpAnyH _ _ _ _ _ _ _ (Act.put _ (some 170) _) _
        simp only [Act.put, List.setIfInBounds_toArray, List.set_cons_zero, List.set_cons_succ, Array.toArray_toList]
        refine wpAnyH_take (i := 15) (v := ?_) rfl (by kernel_rfl) (by kernel_rfl) (by kernel_rfl) (fun _ _ _ h => h) (Or.inl ⟨by rfl, ?_⟩) (by assumption) ?_
        rotate_left
        · intro w hSw; (try dsimp only at hSw); go_split_ands; go_simp; with_reducible rfl
        change wpAnyH _ _ _ _ _ _ _ (Act.put _ (some 171) _) _
        simp only [Act.put, List.setIfInBounds_toArray, List.set_cons_zero, List.set_cons_succ, Array.toArray_toList]
        refine wpAnyH_take (i := 16) (v := ?_) rfl (by kernel_rfl) (by kernel_rfl) (by kernel_rfl) (fun _ _ _ h => h) (Or.inl ⟨by rfl, ?_⟩) (by assumption) ?_
        rotate_left
        · intro w hSw; (try dsimp only at hSw); go_split_ands; go_simp; with_reducible rfl
        change wpAnyH _ _ _ _ _ _ _ (Act.put _ (some 172) _) _
        simp only [Act.put, List.setIfInBounds_toArray, List.set_cons_zero, List.set_cons_succ, Array.toArray_toList]
        refine wpAnyH_ready (rs := [13]) (by kernel_rfl) (by simp) ?_
        refine (AllReadyH.cons rfl (fun K hK => ?_) AllReadyH.nil)
        go_simp
        (with_reducible refine (HLF.out _ _ _ _ _ H3.out).mono ?_); rintro e wq ⟨rfl, rfl⟩
        go_wp2_with fail
        refine hK.out _ _ (by exact HCE.out _ H3.out) (fun hHeld => ?_)
        clear hK K
        refine wpAnyH_take (i := 17) (v := ?_) rfl (by kernel_rfl) (by kernel_rfl) (by kernel_rfl) (fun _ _ _ h => h) (Or.inl ⟨by rfl, ?_⟩) (by assumption) ?_
        rotate_left
        · intro w hSw; (try dsimp only at hSw); go_split_ands; go_simp; with_reducible rfl
        change wpAnyH _ _ _ _ _ _ _ (Act.put _ (some 173) _) _
        simp only [Act.put, List.setIfInBounds_toArray, List.set_cons_zero, List.set_cons_succ, Array.toArray_toList]
        refine wpAnyH_take (i := 18) (v := ?_) rfl (by kernel_rfl) (by kernel_rfl) (by kernel_rfl) (fun _ _ _ h => h) (Or.inl ⟨by rfl, ?_⟩) (by assumption) ?_
        rotate_left
        · intro w hSw; (try dsimp only at hSw); go_split_ands; go_simp; with_reducible rfl
        change wpAnyH _ _ _ _ _ _ _ (Act.put _ (some 174) _) _
        simp only [Act.put, List.setIfInBounds_toArray, List.set_cons_zero, List.set_cons_succ, Array.toArray_toList]
        refine wpAnyH_take (i := 19) (v := ?_) rfl (by kernel_rfl) (by kernel_rfl) (by kernel_rfl) (fun _ _ _ h => h) (Or.inl ⟨by rfl, ?_⟩) (by assumption) ?_
        rotate_left
        · intro w hSw; (try dsimp only at hSw); go_split_ands; go_simp; with_reducible rfl
        change wpAnyH _ _ _ _ _ _ _ (Act.put _ (some 6) _) _
        simp only [Act.put, List.setIfInBounds_toArray, List.set_cons_zero, List.set_cons_succ, Array.toArray_toList]
        refine wpAnyH_done (by kernel_rfl) ?_ _
        go_wp2
        go_ret
        exact ⟨rfl, H3.out.belW⟩
      · have hr : rb = false := by rw [← HRB.out]; unfold wnOk at hw; simp [okN]; omega
        have hq := HRR.out
        rw [if_neg hw] at hq
        obtain ⟨⟨rfl, rfl⟩, rfl⟩ : (0 = a1 ∧ 0 = a2) ∧ 3 = ae := by simpa using hq
        subst hr
        clear hq HRR HRB
        go_wp2_with fail
        refine (known12 _).mono ?_
        rintro e w12 ⟨rfl, hb⟩
        have H3 := Lib.hid (H3.out.below hb)
        clear hb
        have j0 := (H3.out.blk (x := (w9.heap.size, 28, #[.int .i64 0, .int .i64 0])) (by simp)).cell 0
        have j1 := (H3.out.blk (x := (w9.heap.size, 28, #[.int .i64 0, .int .i64 0])) (by simp)).cell 1
        simp at j0 j1
        go_wp2
        go_ret
        exact ⟨rfl, H3.out.belW⟩
theorem contract_windowBytes (W : World) (v0 v1 v2 : Value) (a0 : ∃ zs : List Int, v0 = .agg (zs.map (Value.int .i64)).toArray ∧ zs.length = 2 ∧ ∀ z ∈ zs, in64 z) (a1 : ∃ zs : List Int, v1 = .agg (zs.map (Value.int .i64)).toArray ∧ zs.length = 2 ∧ ∀ z ∈ zs, in64 z) (a2 : ∃ r : Rw, v2 = r.v ∧ r.ok .u8 W) :
    Calls Try.prog 3 #[v0, v1, v2] W fun e W' => e = .returned (.bool true) ∧ Below W.heap.size W W' := by
  obtain ⟨zs, rfl, h0, _⟩ := a0
  obtain ⟨ys, rfl, h1, _⟩ := a1
  obtain ⟨r, rfl, ok⟩ := a2
  obtain ⟨p, q, rfl⟩ : ∃ p q, zs = [p, q] := by
    match zs, h0 with
    | [p, q], _ => exact ⟨p, q, rfl⟩
  obtain ⟨x, y, rfl⟩ : ∃ p q, ys = [p, q] := by
    match ys, h1 with
    | [p, q], _ => exact ⟨p, q, rfl⟩
  obtain ⟨l, h1, h2⟩ := bytes_of r.zs ok.wf
  have hrd := ok.rd
  rw [h1] at hrd
  have := windowBytes_main W p q x y r.A r.c l (by show Rd W W.heap.size 1 r.A l.length (by8 l); rw [h2]; exact hrd) (by rw [h2]; exact ⟨ok.le, by have := ok.cap; unfold maxLen at this; omega⟩)
  rw [h2] at this
  exact this
end Go.Proofs.Ytiakgohipnbdbaa
