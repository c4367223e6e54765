/- Contracts: cmp.Compare, cmp.Or, claims.Compare, the document's Less, Expired. -/
import Derived.Test.YtghcdffpplimoaaDoorOr1
import Derived.Test.YtghcdffpplimoaaDoorCl1
import Derived.Deep.DeepCutAuto
import Derived.Deep.RegionHeld3
import Derived.BigQuiet
namespace Go.Proofs.YtghcdffpplimoaaDoor
set_option linter.unusedVariables false
set_option linter.unusedSimpArgs false
open Go.RowKit

theorem Mst.toV5 {W w w2 w3 : World} {bl : Bl} {ow : List Ro} (h : Mst W w bl ow) (e : w2 = w3) (hh : w = w2) : Mst W w3 bl ow := by
  subst e hh
  exact h
theorem Mst.newX5 {W w w2 : World} {bl : Bl} {ow : List Ro} {t : TypeId} {cs : Array Value} (h : Mst W w bl ow) (hw : w.alloc (.cells cs t) = w2) : ∃ g, w.heap.size = g ∧ Mst W w2 ((g, t, cs) :: bl) ow := by
  subst hw
  exact ⟨_, rfl, h.new t cs⟩
theorem Mst.four {W w : World} {bl : Bl} {ow : List Ro} (h : Mst W w bl ow) {g : Nat} (t : TypeId) {a b c d : Value} (hm : (g, t, #[a, b, c, d]) ∈ bl) : w.cell? ⟨g, 0, none⟩ = some a ∧ w.cell? ⟨g, 1, none⟩ = some b ∧ w.cell? ⟨g, 2, none⟩ = some c ∧ w.cell? ⟨g, 3, none⟩ = some d :=
  ⟨(h.bk _ hm).1.cell 0, (h.bk _ hm).1.cell 1, (h.bk _ hm).1.cell 2, (h.bk _ hm).1.cell 3⟩
section
variable {P : Program} {w W : World} {bl : Bl}
theorem wpList_appE5 {ops : Array Oper} {rest : List Oper} {o : Oper} {a : Act} {Q : Exit → Act → World → Prop} (hgd : o.guard = none) (s x : Operand) (t : TypeId)
    (ho : o.op = .call { callee := .builtin .append, args := #[s, x], argTypes := #[t, t] })
    (pre : List Ro) {post : List Ro} {e : TypeId} {size n bytes : Nat} {v : Value} {xs : List Value} (hm : Mst W w bl (pre ++ ⟨e, size, v, n, xs⟩ :: post)) (hE : El P t e size bytes) (hs : a.eval s = v)
    (B : Nat) (A : Option Addr) (m c : Nat) (news : List Value) (hx : a.eval x = .slice A m c) (hr : Rd w B size A m news) (h1 : ∀ u ∈ news, u.oneCell' = true)
    (h63 : n + m ≤ maxLen) (hbytes : (n + m) * bytes ≤ 140737488355328)
    (h : ∀ A' c' w' N X, N = n + m → X = xs ++ news → Mst W w' bl (pre ++ ⟨e, size, .slice A' N c', N, X⟩ :: post) → wpList P ops Q rest (a.put o.dst (.slice A' N c')) w') : wpList P ops Q (o :: rest) a w :=
  wpList_appM hgd s x t ho pre hm hE hs B A m c news hx hr h1 h63 hbytes fun A' c' w' hm' => h A' c' w' _ _ rfl rfl hm'
end
abbrev iv5 (ks : List Int) : List Value := ks.map (Value.int .i64)
theorem isnan5 (x : Int) (w : World) : Calls Tryd.prog 31 #[.int .i64 x] w fun r w' => r = .returned (.bool false) ∧ w = w' := by
  have h : (x != x) = false := by simp
  go_enter Tryd.func31, Tryd.ntmps31
  go_wp2
  go_ret
  exact ⟨rfl, rfl⟩
theorem cmp5 (x y : Int) (w : World) : Calls Tryd.prog 22 #[.int .i64 x, .int .i64 y] w fun r w' => r = .returned (.int .i64 (cmpI x y)) ∧ w = w' := by
  have hc : (x < y ∧ cmpI x y = -1) ∨ (¬ x < y ∧ y < x ∧ cmpI x y = 1) ∨ (¬ x < y ∧ ¬ y < x ∧ cmpI x y = 0) := by
    unfold cmpI
    by_cases h1 : x < y
    · exact .inl ⟨h1, if_pos h1⟩
    · by_cases h2 : y < x
      · exact .inr (.inl ⟨h1, h2, by rw [if_neg h1, if_pos h2]⟩)
      · exact .inr (.inr ⟨h1, h2, by rw [if_neg h1, if_neg h2]⟩)
  rcases hc with ⟨h1, e⟩ | ⟨h1, h2, e⟩ | ⟨h1, h2, e⟩
  all_goals
    rw [e]
    clear e
    go_enter Tryd.func22, Tryd.ntmps22
    go_wp2_with fail
    refine (isnan5 _ _).mono ?_
    rintro r w1 ⟨rfl, rfl⟩
    go_wp2_with fail
    refine (isnan5 _ _).mono ?_
    rintro r w1 ⟨rfl, rfl⟩
    go_wp2
    go_ret
    exact ⟨rfl, rfl⟩
set_option maxRecDepth 100000 in
set_option maxHeartbeats 1000000 in
theorem or5 (w : World) (B : Nat) (A : Option Addr) (c : Nat) (ks : List Int) (hr : Rd w B 1 A ks.length (iv5 ks)) (hn : ks.length ≤ 1000000) :
    Calls Tryd.prog 21 #[.slice A ks.length c] w fun r w' => r = .returned (.int .i64 (orL ks)) ∧ w = w' := by
  obtain ⟨n, hN⟩ : ∃ n, ks.length = n := ⟨_, rfl⟩
  have HN := Lib.hid hN
  have HR := Lib.hid hr
  rw [hN] at hn ⊢
  clear hN hr
  go_enter Tryd.func21, Tryd.ntmps21
  go_wp2_with fail
  go_loopg [8] n (fun gg s8 wr => ∃ k : Nat, k + gg = n ∧ s8 = .int .i64 k ∧ Hid (orL ks = orL (ks.drop k)) ∧ w = wr)
  case atStart => exact ⟨0, by omega, rfl, Lib.hid (by simp), rfl⟩
  case round =>
    obtain ⟨k, hk, rfl, hd, rfl⟩ := hrel
    by_cases hlt : k < n
    · have hkl : k < ks.length := by rw [HN.out]; exact hlt
      obtain ⟨x, hx⟩ : ∃ e, ks[k]? = some e := ⟨_, List.getElem?_eq_getElem hkl⟩
      have hdr : ks.drop k = x :: ks.drop (k + 1) := by
        rw [List.drop_eq_getElem_cons hkl]
        rw [List.getElem?_eq_getElem hkl] at hx
        injection hx with hx
        rw [hx]
      obtain ⟨b, o, rfl, hb, hc⟩ := HR.out.2 (by rw [HN.out]; omega)
      have q0 := hc k (.int .i64 x) (by simp [iv5, hx])
      have i1 : (k : Int) < n := by omega
      have i2 : (0 : Int) ≤ k := by omega
      have i3 : (n : Int) ≤ 1000000 := by omega
      by_cases he : x = 0
      · have HD := Lib.hid (show orL ks = orL (ks.drop (k + 1)) by rw [hd.out, hdr, orL, if_pos he])
        subst he
        clear hx hc hb hdr hd
        go_wp2_with fail
        go_roundg (n - (k + 1))
        case measure => exact meas hk hlt
        case rel => exact ⟨k + 1, meas2 hlt, by go_num, HD, rfl⟩
      · have HD := Lib.hid (show orL ks = x by rw [hd.out, hdr, orL, if_neg he])
        have hv : (x != 0) = true := by simpa using he
        clear hx hc hb hdr hd he
        go_wp2
        try rw [Exit.noGoto_ret]
        go_ret
        exact ⟨by rw [HD.out]; rfl, rfl⟩
    · obtain rfl : k = n := by omega
      have HD := Lib.hid (show orL ks = 0 by rw [hd.out, List.drop_eq_nil_of_le (by rw [HN.out]; exact Nat.le_refl _)]; rfl)
      clear hd hk hlt
      go_wp2
      go_ret
      exact ⟨by rw [HD.out]; rfl, rfl⟩

/-- Claims, and in which order their numbers count. -/
structure C5 where
  i : Int
  r : Int
  x : Int
  s : Int
abbrev C5.v (c : C5) : Value := .agg #[.int .i64 c.i, .int .i64 c.r, .int .i64 c.x, .int .i64 c.s]
def C5.key (c : C5) : List Int := [c.s, c.i, c.x, c.r]
theorem C5.key_eq {a b : C5} : a.key = b.key ↔ (a.i = b.i ∧ a.r = b.r ∧ a.x = b.x ∧ a.s = b.s) := by
  simp only [C5.key, List.cons.injEq, and_true]
  constructor
  · rintro ⟨h1, h2, h3, h4⟩; exact ⟨h2, h4, h3, h1⟩
  · rintro ⟨h1, h2, h3, h4⟩; exact ⟨h4, h1, h3, h2⟩
def cmpC (a b : C5) : Int := cmpL a.key b.key
/-- The same? as one value. -/
def eqC (a b : C5) : Bool := decide (a.key = b.key)
theorem eq5_cl (w : World) (a b : C5) : (binOp .eql 27 a.v b.v).run Tryd.prog w = .ok (.bool (eqC a b)) w := by
  obtain ⟨i, r, x, s⟩ := a
  obtain ⟨i', r', x', s'⟩ := b
  have hk : eqC ⟨i, r, x, s⟩ ⟨i', r', x', s'⟩ = (i == i' && (r == r' && (x == x' && s == s'))) := by
    unfold eqC
    rw [Bool.eq_iff_iff]
    simp only [decide_eq_true_eq, Bool.and_eq_true, beq_iff_eq, C5.key_eq]
  rw [hk]
  by_cases h1 : i = i'
  · subst h1
    by_cases h2 : r = r'
    · subst h2
      by_cases h3 : x = x'
      · subst h3
        by_cases h4 : s = s' <;> go_simp
      · have h3' : (x == x') = false := by simpa using h3
        by_cases h4 : s = s' <;> go_simp
    · have h2' : (r == r') = false := by simpa using h2
      by_cases h3 : x = x' <;> by_cases h4 : s = s' <;> go_simp
  · have h1' : (i == i') = false := by simpa using h1
    by_cases h2 : r = r' <;> by_cases h3 : x = x' <;> by_cases h4 : s = s' <;> go_simp
theorem eq5_ref (w : World) (a b : C5) : (binOp .eql 35 a.v b.v).run Tryd.prog w = .ok (.bool (eqC a b)) w := by
  obtain ⟨i, r, x, s⟩ := a
  obtain ⟨i', r', x', s'⟩ := b
  have hk : eqC ⟨i, r, x, s⟩ ⟨i', r', x', s'⟩ = (i == i' && (r == r' && (x == x' && s == s'))) := by
    unfold eqC
    rw [Bool.eq_iff_iff]
    simp only [decide_eq_true_eq, Bool.and_eq_true, beq_iff_eq, C5.key_eq]
  rw [hk]
  by_cases h1 : i = i'
  · subst h1
    by_cases h2 : r = r'
    · subst h2
      by_cases h3 : x = x'
      · subst h3
        by_cases h4 : s = s' <;> go_simp
      · have h3' : (x == x') = false := by simpa using h3
        by_cases h4 : s = s' <;> go_simp
    · have h2' : (r == r') = false := by simpa using h2
      by_cases h3 : x = x' <;> by_cases h4 : s = s' <;> go_simp
  · have h1' : (i == i') = false := by simpa using h1
    by_cases h2 : r = r' <;> by_cases h3 : x = x' <;> by_cases h4 : s = s' <;> go_simp

set_option maxRecDepth 100000 in
set_option maxHeartbeats 4000000 in
theorem ccompare5 (a b : C5) (w : World) : Calls Tryd.prog 12 #[a.v, b.v] w fun r w' => r = .returned (.int .i64 (cmpC a b)) ∧ Below w.heap.size w w' := by
  have heq0 := fun w => eq5_cl w a b
  have hcc := cmpL_cases a.key b.key rfl
  have hoc := or_cmp a.key b.key rfl
  obtain ⟨E, hE⟩ : ∃ E, eqC a b = E := ⟨_, rfl⟩
  rw [hE] at heq0
  obtain ⟨i, r, x, s⟩ := a
  obtain ⟨i', r', x', s'⟩ := b
  have Mq := Lib.hid (((Mst.start w).new 27 #[.int .i64 i, .int .i64 r, .int .i64 x, .int .i64 s]).new 27 #[.int .i64 i', .int .i64 r', .int .i64 x', .int .i64 s'])
  rw [show (w.alloc (.cells #[.int .i64 i, .int .i64 r, .int .i64 x, .int .i64 s] 27)).heap.size = w.heap.size + 1 by simp] at Mq
  have heq : ∀ w, (binOp .eql 27 (.agg #[.int .i64 i, .int .i64 r, .int .i64 x, .int .i64 s]) (.agg #[.int .i64 i', .int .i64 r', .int .i64 x', .int .i64 s'])).run Tryd.prog w = .ok (.bool E) w := heq0
  clear heq0
  cases E
  · have HO := Lib.hid (show orL [cmpI s s', cmpI i i', cmpI x x', cmpI r r'] = cmpC ⟨i, r, x, s⟩ ⟨i', r', x', s'⟩ from hoc)
    have HCE := Lib.hid (show ∀ w' bl, Mst w w' (bl ++ [(w.heap.size + 1, 27, #[.int .i64 i', .int .i64 r', .int .i64 x', .int .i64 s']), (w.heap.size, 27, #[.int .i64 i, .int .i64 r, .int .i64 x, .int .i64 s])]) [] → (w'.cell? ⟨w.heap.size, 0, none⟩ = some (.int .i64 i) ∧ w'.cell? ⟨w.heap.size, 1, none⟩ = some (.int .i64 r) ∧ w'.cell? ⟨w.heap.size, 2, none⟩ = some (.int .i64 x) ∧ w'.cell? ⟨w.heap.size, 3, none⟩ = some (.int .i64 s)) ∧ (w'.cell? ⟨w.heap.size + 1, 0, none⟩ = some (.int .i64 i') ∧ w'.cell? ⟨w.heap.size + 1, 1, none⟩ = some (.int .i64 r') ∧ w'.cell? ⟨w.heap.size + 1, 2, none⟩ = some (.int .i64 x') ∧ w'.cell? ⟨w.heap.size + 1, 3, none⟩ = some (.int .i64 s')) from fun w' bl h =>
      ⟨h.four 27 (by simp), h.four 27 (by simp)⟩)
    have K0 := Lib.hid (HCE.out _ [] Mq.out.drew)
    obtain ⟨k1, hk1⟩ : ∃ k, cmpI s s' = k := ⟨_, rfl⟩
    obtain ⟨k2, hk2⟩ : ∃ k, cmpI i i' = k := ⟨_, rfl⟩
    obtain ⟨k3, hk3⟩ : ∃ k, cmpI x x' = k := ⟨_, rfl⟩
    obtain ⟨k4, hk4⟩ : ∃ k, cmpI r r' = k := ⟨_, rfl⟩
    have H1 := Lib.hid (fun w' => cmp5 s s' w')
    have H2 := Lib.hid (fun w' => cmp5 i i' w')
    have H3 := Lib.hid (fun w' => cmp5 x x' w')
    have H4 := Lib.hid (fun w' => cmp5 r r' w')
    rw [hk1] at H1 HO
    rw [hk2] at H2 HO
    rw [hk3] at H3 HO
    rw [hk4] at H4 HO
    have HOR := Lib.hid (show ∀ w' B A, Rd w' B 1 A 4 (iv5 [k1, k2, k3, k4]) → Calls Tryd.prog 21 #[.slice A 4 4] w' fun r w2 => r = .returned (.int .i64 (orL [k1, k2, k3, k4])) ∧ w' = w2 from fun w' B A h => or5 w' B A 4 [k1, k2, k3, k4] h (by simp))
    obtain ⟨N, hN⟩ : ∃ N, cmpC ⟨i, r, x, s⟩ ⟨i', r', x', s'⟩ = N := ⟨_, rfl⟩
    rw [hN] at HO ⊢
    clear hE hcc hoc hk1 hk2 hk3 hk4 hN
    go_enter Tryd.func12, Tryd.ntmps12
    go_upto_region 3 with fail
    refine wp_region_held_drew (S := fun w' => (w'.cell? ⟨w.heap.size, 0, none⟩ = some (.int .i64 i) ∧ w'.cell? ⟨w.heap.size, 1, none⟩ = some (.int .i64 r) ∧ w'.cell? ⟨w.heap.size, 2, none⟩ = some (.int .i64 x) ∧ w'.cell? ⟨w.heap.size, 3, none⟩ = some (.int .i64 s)) ∧ (w'.cell? ⟨w.heap.size + 1, 0, none⟩ = some (.int .i64 i') ∧ w'.cell? ⟨w.heap.size + 1, 1, none⟩ = some (.int .i64 r') ∧ w'.cell? ⟨w.heap.size + 1, 2, none⟩ = some (.int .i64 x') ∧ w'.cell? ⟨w.heap.size + 1, 3, none⟩ = some (.int .i64 s'))) (by kernel_rfl) ?_ (fun hHeld => ?_)
    · exact K0.out
    generalize hw7 : World.drew _ = w7 at hHeld ⊢
    have Mq := Lib.hid (Mq.out.drew.toV5 hw7 rfl)
    clear hw7
    refine wpAnyH_take (i := 0) (v := ?_) rfl (by kernel_rfl) (by kernel_rfl) (by kernel_rfl) (fun _ _ _ h => h) (Or.inl ⟨by rfl, ?_⟩) (by assumption) ?_
    rotate_left
    · intro w hSw; (try dsimp only at hSw); go_split_ands; go_simp; with_reducible rfl
    change wpAnyH _ _ _ _ _ _ _ (Act.put _ (some 8) _) _
    simp only [Act.put, List.setIfInBounds_toArray, List.set_cons_zero, List.set_cons_succ, Array.toArray_toList]
    refine wpAnyH_take (i := 1) (v := ?_) rfl (by kernel_rfl) (by kernel_rfl) (by kernel_rfl) (fun _ _ _ h => h) (Or.inl ⟨by rfl, ?_⟩) (by assumption) ?_
    rotate_left
    · intro w hSw; (try dsimp only at hSw); go_split_ands; go_simp; with_reducible rfl
    change wpAnyH _ _ _ _ _ _ _ (Act.put _ (some 9) _) _
    simp only [Act.put, List.setIfInBounds_toArray, List.set_cons_zero, List.set_cons_succ, Array.toArray_toList]
    refine wpAnyH_take (i := 2) (v := ?_) rfl (by kernel_rfl) (by kernel_rfl) (by kernel_rfl) (fun _ _ _ h => h) (Or.inl ⟨by rfl, ?_⟩) (by assumption) ?_
    rotate_left
    · intro w hSw; (try dsimp only at hSw); go_split_ands; go_simp; with_reducible rfl
    change wpAnyH _ _ _ _ _ _ _ (Act.put _ (some 10) _) _
    simp only [Act.put, List.setIfInBounds_toArray, List.set_cons_zero, List.set_cons_succ, Array.toArray_toList]
    refine wpAnyH_take (i := 3) (v := ?_) rfl (by kernel_rfl) (by kernel_rfl) (by kernel_rfl) (fun _ _ _ h => h) (Or.inl ⟨by rfl, ?_⟩) (by assumption) ?_
    rotate_left
    · intro w hSw; (try dsimp only at hSw); go_split_ands; go_simp; with_reducible rfl
    change wpAnyH _ _ _ _ _ _ _ (Act.put _ (some 11) _) _
    simp only [Act.put, List.setIfInBounds_toArray, List.set_cons_zero, List.set_cons_succ, Array.toArray_toList]
    refine wpAnyH_take (i := 5) (v := ?_) rfl (by kernel_rfl) (by kernel_rfl) (by kernel_rfl) (fun _ _ _ h => h) (Or.inl ⟨by rfl, ?_⟩) (by assumption) ?_
    rotate_left
    · intro w hSw; (try dsimp only at hSw); go_split_ands; go_simp; with_reducible rfl
    change wpAnyH _ _ _ _ _ _ _ (Act.put _ (some 13) _) _
    simp only [Act.put, List.setIfInBounds_toArray, List.set_cons_zero, List.set_cons_succ, Array.toArray_toList]
    refine wpAnyH_take (i := 6) (v := ?_) rfl (by kernel_rfl) (by kernel_rfl) (by kernel_rfl) (fun _ _ _ h => h) (Or.inl ⟨by rfl, ?_⟩) (by assumption) ?_
    rotate_left
    · intro w hSw; (try dsimp only at hSw); go_split_ands; go_simp; with_reducible rfl
    change wpAnyH _ _ _ _ _ _ _ (Act.put _ (some 14) _) _
    simp only [Act.put, List.setIfInBounds_toArray, List.set_cons_zero, List.set_cons_succ, Array.toArray_toList]
    refine wpAnyH_take (i := 7) (v := ?_) rfl (by kernel_rfl) (by kernel_rfl) (by kernel_rfl) (fun _ _ _ h => h) (Or.inl ⟨by rfl, ?_⟩) (by assumption) ?_
    rotate_left
    · intro w hSw; (try dsimp only at hSw); go_split_ands; go_simp; with_reducible rfl
    change wpAnyH _ _ _ _ _ _ _ (Act.put _ (some 15) _) _
    simp only [Act.put, List.setIfInBounds_toArray, List.set_cons_zero, List.set_cons_succ, Array.toArray_toList]
    refine wpAnyH_take (i := 8) (v := ?_) rfl (by kernel_rfl) (by kernel_rfl) (by kernel_rfl) (fun _ _ _ h => h) (Or.inl ⟨by rfl, ?_⟩) (by assumption) ?_
    rotate_left
    · intro w hSw; (try dsimp only at hSw); go_split_ands; go_simp; with_reducible rfl
    change wpAnyH _ _ _ _ _ _ _ (Act.put _ (some 16) _) _
    simp only [Act.put, List.setIfInBounds_toArray, List.set_cons_zero, List.set_cons_succ, Array.toArray_toList]
    refine wpAnyH_take (i := 10) (v := ?_) rfl (by kernel_rfl) (by kernel_rfl) (by kernel_rfl) (fun _ _ _ h => h) (Or.inl ⟨by rfl, ?_⟩) (by assumption) ?_
    rotate_left
    · intro w hSw; (try dsimp only at hSw); go_split_ands; go_simp; with_reducible rfl
    change wpAnyH _ _ _ _ _ _ _ (Act.put _ (some 18) _) _
    simp only [Act.put, List.setIfInBounds_toArray, List.set_cons_zero, List.set_cons_succ, Array.toArray_toList]
    refine wpAnyH_take (i := 11) (v := ?_) rfl (by kernel_rfl) (by kernel_rfl) (by kernel_rfl) (fun _ _ _ h => h) (Or.inl ⟨by rfl, ?_⟩) (by assumption) ?_
    rotate_left
    · intro w hSw; (try dsimp only at hSw); go_split_ands; go_simp; with_reducible rfl
    change wpAnyH _ _ _ _ _ _ _ (Act.put _ (some 19) _) _
    simp only [Act.put, List.setIfInBounds_toArray, List.set_cons_zero, List.set_cons_succ, Array.toArray_toList]
    refine wpAnyH_take (i := 12) (v := ?_) rfl (by kernel_rfl) (by kernel_rfl) (by kernel_rfl) (fun _ _ _ h => h) (Or.inl ⟨by rfl, ?_⟩) (by assumption) ?_
    rotate_left
    · intro w hSw; (try dsimp only at hSw); go_split_ands; go_simp; with_reducible rfl
    change wpAnyH _ _ _ _ _ _ _ (Act.put _ (some 20) _) _
    simp only [Act.put, List.setIfInBounds_toArray, List.set_cons_zero, List.set_cons_succ, Array.toArray_toList]
    refine wpAnyH_take (i := 13) (v := ?_) rfl (by kernel_rfl) (by kernel_rfl) (by kernel_rfl) (fun _ _ _ h => h) (Or.inl ⟨by rfl, ?_⟩) (by assumption) ?_
    rotate_left
    · intro w hSw; (try dsimp only at hSw); go_split_ands; go_simp; with_reducible rfl
    change wpAnyH _ _ _ _ _ _ _ (Act.put _ (some 21) _) _
    simp only [Act.put, List.setIfInBounds_toArray, List.set_cons_zero, List.set_cons_succ, Array.toArray_toList]
    refine wpAnyH_take (i := 15) (v := ?_) rfl (by kernel_rfl) (by kernel_rfl) (by kernel_rfl) (fun _ _ _ h => h) (Or.inl ⟨by rfl, ?_⟩) (by assumption) ?_
    rotate_left
    · intro w hSw; (try dsimp only at hSw); go_split_ands; go_simp; with_reducible rfl
    change wpAnyH _ _ _ _ _ _ _ (Act.put _ (some 23) _) _
    simp only [Act.put, List.setIfInBounds_toArray, List.set_cons_zero, List.set_cons_succ, Array.toArray_toList]
    refine wpAnyH_take (i := 16) (v := ?_) rfl (by kernel_rfl) (by kernel_rfl) (by kernel_rfl) (fun _ _ _ h => h) (Or.inl ⟨by rfl, ?_⟩) (by assumption) ?_
    rotate_left
    · intro w hSw; (try dsimp only at hSw); go_split_ands; go_simp; with_reducible rfl
    change wpAnyH _ _ _ _ _ _ _ (Act.put _ (some 24) _) _
    simp only [Act.put, List.setIfInBounds_toArray, List.set_cons_zero, List.set_cons_succ, Array.toArray_toList]
    refine wpAnyH_take (i := 17) (v := ?_) rfl (by kernel_rfl) (by kernel_rfl) (by kernel_rfl) (fun _ _ _ h => h) (Or.inl ⟨by rfl, ?_⟩) (by assumption) ?_
    rotate_left
    · intro w hSw; (try dsimp only at hSw); go_split_ands; go_simp; with_reducible rfl
    change wpAnyH _ _ _ _ _ _ _ (Act.put _ (some 25) _) _
    simp only [Act.put, List.setIfInBounds_toArray, List.set_cons_zero, List.set_cons_succ, Array.toArray_toList]
    refine wpAnyH_take (i := 18) (v := ?_) rfl (by kernel_rfl) (by kernel_rfl) (by kernel_rfl) (fun _ _ _ h => h) (Or.inl ⟨by rfl, ?_⟩) (by assumption) ?_
    rotate_left
    · intro w hSw; (try dsimp only at hSw); go_split_ands; go_simp; with_reducible rfl
    change wpAnyH _ _ _ _ _ _ _ (Act.put _ (some 26) _) _
    simp only [Act.put, List.setIfInBounds_toArray, List.set_cons_zero, List.set_cons_succ, Array.toArray_toList]
    refine wpAnyH_ready (rs := [4]) (by kernel_rfl) (by simp) ?_
    refine (AllReadyH.cons rfl (fun K hK => ?_) AllReadyH.nil)
    go_simp
    (with_reducible refine (H1.out _).mono ?_); rintro r wq ⟨rfl, rfl⟩
    go_wp2_with fail
    refine hK.out _ _ (by first | exact HCE.out _ [] Mq.out | exact HCE.out _ [_] Mq.out) (fun hHeld => ?_)
    clear hK K
    refine wpAnyH_ready (rs := [9]) (by kernel_rfl) (by simp) ?_
    refine (AllReadyH.cons rfl (fun K hK => ?_) AllReadyH.nil)
    go_simp
    (with_reducible refine (H2.out _).mono ?_); rintro r wq ⟨rfl, rfl⟩
    go_wp2_with fail
    refine hK.out _ _ (by first | exact HCE.out _ [] Mq.out | exact HCE.out _ [_] Mq.out) (fun hHeld => ?_)
    clear hK K
    refine wpAnyH_ready (rs := [14]) (by kernel_rfl) (by simp) ?_
    refine (AllReadyH.cons rfl (fun K hK => ?_) AllReadyH.nil)
    go_simp
    (with_reducible refine (H3.out _).mono ?_); rintro r wq ⟨rfl, rfl⟩
    go_wp2_with fail
    refine hK.out _ _ (by first | exact HCE.out _ [] Mq.out | exact HCE.out _ [_] Mq.out) (fun hHeld => ?_)
    clear hK K
    refine wpAnyH_ready (rs := [19]) (by kernel_rfl) (by simp) ?_
    refine (AllReadyH.cons rfl (fun K hK => ?_) AllReadyH.nil)
    go_simp
    (with_reducible refine (H4.out _).mono ?_); rintro r wq ⟨rfl, rfl⟩
    go_wp2_with fail
    refine hK.out _ _ (by first | exact HCE.out _ [] Mq.out | exact HCE.out _ [_] Mq.out) (fun hHeld => ?_)
    clear hK K
    refine wpAnyH_ready (rs := [20]) (by kernel_rfl) (by simp) ?_
    refine (AllReadyH.cons rfl (fun K hK => ?_) AllReadyH.nil)
    go_simp; generalize hwq : World.alloc _ _ = wp; obtain ⟨g5, hg5, mq⟩ := Mq.out.newX5 hwq; rw [hg5]; have Mq := Lib.hid mq; have HRD := Lib.hid (show Rd wp wp.heap.size 1 (some ⟨g5, 0, none⟩) 4 (iv5 [k1, k2, k3, k4]) from mq.src (Src.blk (List.mem_cons_self ..) rfl)); clear hwq hg5 mq
    refine hK.out _ _ (by first | exact HCE.out _ [] Mq.out | exact HCE.out _ [_] Mq.out) (fun hHeld => ?_)
    clear hK K
    refine wpAnyH_ready (rs := [21]) (by kernel_rfl) (by simp) ?_
    refine (AllReadyH.cons rfl (fun K hK => ?_) AllReadyH.nil)
    go_simp
    (with_reducible refine (HOR.out _ _ _ HRD.out).mono ?_); rintro r wq ⟨rfl, rfl⟩
    go_wp2_with fail
    refine hK.out _ _ (by first | exact HCE.out _ [] Mq.out | exact HCE.out _ [_] Mq.out) (fun hHeld => ?_)
    clear hK K
    refine wpAnyH_take (i := 22) (v := ?_) rfl (by kernel_rfl) (by kernel_rfl) (by kernel_rfl) (fun _ _ _ h => h) (Or.inl ⟨by rfl, ?_⟩) (by assumption) ?_
    rotate_left
    · intro w hSw; (try dsimp only at hSw); go_split_ands; go_simp; with_reducible rfl
    change wpAnyH _ _ _ _ _ _ _ (Act.put _ (some 4) _) _
    simp only [Act.put, List.setIfInBounds_toArray, List.set_cons_zero, List.set_cons_succ, Array.toArray_toList]
    refine wpAnyH_done (by kernel_rfl) ?_ _
    clear hHeld K0
    go_wp2
    go_ret
    exact ⟨by rw [← HO.out]; rfl, Mq.out.bel⟩
  · have HO := Lib.hid (show cmpC ⟨i, r, x, s⟩ ⟨i', r', x', s'⟩ = 0 by
      have h : C5.key ⟨i, r, x, s⟩ = C5.key ⟨i', r', x', s'⟩ := by simpa [eqC] using hE
      rcases hcc with ⟨h1, _⟩ | ⟨_, h2, _⟩ | ⟨_, h2, _⟩
      · exact h1
      · exact absurd h h2
      · exact absurd h h2)
    clear hE hcc hoc
    go_enter Tryd.func12, Tryd.ntmps12
    go_wp2
    go_ret
    exact ⟨by rw [HO.out]; rfl, Mq.out.bel⟩

theorem expired5 (c : C5) (t : Int) (w : World) : Calls Tryd.prog 16 #[c.v, .int .i64 t] w fun r w' => r = .returned (.bool (decide (c.x ≤ t))) ∧ Below w.heap.size w w' := by
  obtain ⟨i, r, x, s⟩ := c
  go_enter Tryd.func16, Tryd.ntmps16
  go_wp2
  go_ret
  exact ⟨rfl, (Below.refl _ _).alloc (Nat.le_refl _) _⟩

set_option maxRecDepth 100000 in
set_option maxHeartbeats 4000000 in
theorem less5 (a b : C5) (w : World) : Calls Tryd.prog 14 #[a.v, b.v] w fun r w' => r = .returned (.bool (lexL a.key b.key)) ∧ Below w.heap.size w w' := by
  obtain ⟨i, r, x, s⟩ := a
  obtain ⟨i', r', x', s'⟩ := b
  have m1 := (((Mst.start w).new 35 #[.int .i64 i, .int .i64 r, .int .i64 x, .int .i64 s]).new 35 #[.int .i64 i', .int .i64 r', .int .i64 x', .int .i64 s'])
  have e1 : (w.alloc (.cells #[.int .i64 i, .int .i64 r, .int .i64 x, .int .i64 s] 35)).heap.size = w.heap.size + 1 := by simp
  rw [e1] at m1
  have m2 := (m1.new 59 #[.int .i64 s, .int .i64 i, .int .i64 x, .int .i64 r]).new 59 #[.int .i64 s', .int .i64 i', .int .i64 x', .int .i64 r']
  have e2 : ((w.alloc (.cells #[.int .i64 i, .int .i64 r, .int .i64 x, .int .i64 s] 35)).alloc (.cells #[.int .i64 i', .int .i64 r', .int .i64 x', .int .i64 s'] 35)).heap.size = w.heap.size + 2 := by simp
  have e3 : (((w.alloc (.cells #[.int .i64 i, .int .i64 r, .int .i64 x, .int .i64 s] 35)).alloc (.cells #[.int .i64 i', .int .i64 r', .int .i64 x', .int .i64 s'] 35)).alloc (.cells #[.int .i64 s, .int .i64 i, .int .i64 x, .int .i64 r] 59)).heap.size = w.heap.size + 3 := by simp
  rw [e2, e3] at m2
  obtain ⟨xs, hxs⟩ : ∃ l, C5.key ⟨i, r, x, s⟩ = l := ⟨_, rfl⟩
  obtain ⟨ys, hys⟩ : ∃ l, C5.key ⟨i', r', x', s'⟩ = l := ⟨_, rfl⟩
  have HLX := Lib.hid (show xs.length = 4 by rw [← hxs]; rfl)
  have HLY := Lib.hid (show ys.length = 4 by rw [← hys]; rfl)
  have m3 := m2.sub (bl' := [(w.heap.size + 3, 59, (iv5 (C5.key ⟨i', r', x', s'⟩)).toArray), (w.heap.size + 2, 59, (iv5 (C5.key ⟨i, r, x, s⟩)).toArray)]) (ow' := []) (((List.nil_sublist _).cons_cons _).cons_cons _) (List.Sublist.refl _)
  rw [hxs, hys] at m3
  have M0 := Lib.hid m3
  rw [hxs, hys]
  clear m1 m2 e1 e2 e3 hxs hys m3
  go_enter Tryd.func14, Tryd.ntmps14
  go_upto_region 3 with fail
  generalize hw1 : World.alloc _ _ = w1
  have Mq := Lib.hid (M0.out.toV5 hw1 rfl)
  clear hw1 M0
  go_wp2_with fail
  go_loopg [7] 4 (fun gg s7 wr => ∃ k : Nat, k + gg = 4 ∧ s7 = .int .i64 k ∧ Hid (lexL xs ys = lexL (xs.drop k) (ys.drop k)) ∧ Mst w wr [(w.heap.size + 3, 59, (iv5 ys).toArray), (w.heap.size + 2, 59, (iv5 xs).toArray)] [])
  case atStart => exact ⟨0, by omega, rfl, Lib.hid (by simp), Mq.out⟩
  case round =>
    obtain ⟨k, hk, rfl, hd, hm⟩ := hrel
    clear Mq
    have Mq := Lib.hid hm
    by_cases hlt : k < 4
    · have hkx : k < xs.length := by rw [HLX.out]; exact hlt
      have hky : k < ys.length := by rw [HLY.out]; exact hlt
      obtain ⟨u, hu⟩ : ∃ e, xs[k]? = some e := ⟨_, List.getElem?_eq_getElem hkx⟩
      obtain ⟨v, hv⟩ : ∃ e, ys[k]? = some e := ⟨_, List.getElem?_eq_getElem hky⟩
      have c0 : wr.cell? ⟨w.heap.size + 2, k, none⟩ = some (.int .i64 u) := ((hm.blk [_]).cell k).trans (by simp [iv5, hu])
      have c1 : wr.cell? ⟨w.heap.size + 3, k, none⟩ = some (.int .i64 v) := ((hm.blk []).cell k).trans (by simp [iv5, hv])
      have hdx : xs.drop k = u :: xs.drop (k + 1) := by
        rw [List.drop_eq_getElem_cons hkx]
        rw [List.getElem?_eq_getElem hkx] at hu
        injection hu with hu
        rw [hu]
      have hdy : ys.drop k = v :: ys.drop (k + 1) := by
        rw [List.drop_eq_getElem_cons hky]
        rw [List.getElem?_eq_getElem hky] at hv
        injection hv with hv
        rw [hv]
      have i1 : (k : Int) < 4 := by omega
      have i2 : (0 : Int) ≤ k := by omega
      by_cases he : u = v
      · have HD := Lib.hid (show lexL xs ys = lexL (xs.drop (k + 1)) (ys.drop (k + 1)) by rw [hd.out, hdx, hdy, lexL, if_pos he])
        subst he
        have hne : (u != u) = false := by simp
        clear hu hv hdx hdy hd hm hkx hky
        go_wp2_with fail
        go_quiet (fail)
        go_wp2_with fail
        go_roundg (4 - (k + 1))
        case measure => exact meas hk hlt
        case rel => exact ⟨k + 1, meas2 hlt, by go_num, HD, Mq.out.below (Bdn (Below.refl _ _) _)⟩
      · have HD := Lib.hid (show lexL xs ys = decide (u < v) by rw [hd.out, hdx, hdy, lexL, if_neg he])
        have hne : (u != v) = true := by simpa using he
        clear hu hv hdx hdy hd hm hkx hky he
        go_wp2_with fail
        go_quiet (fail)
        go_wp2_with fail
        go_quiet (fail)
        go_wp2
        try rw [Exit.noGoto_ret]
        go_ret
        exact ⟨by rw [HD.out]; rfl, ((Mq.out.drewN _).drewN _).bel⟩
    · obtain rfl : k = 4 := by omega
      have HD := Lib.hid (show lexL xs ys = false by rw [hd.out, List.drop_eq_nil_of_le (by rw [HLX.out]; exact Nat.le_refl _)]; rfl)
      clear hd hk hlt hm
      go_wp2
      go_ret
      exact ⟨by rw [HD.out]; rfl, Mq.out.bel⟩
end Go.Proofs.YtghcdffpplimoaaDoor
