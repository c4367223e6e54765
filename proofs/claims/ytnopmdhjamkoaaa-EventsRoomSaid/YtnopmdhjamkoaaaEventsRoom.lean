/-
  vigillaw27.EventsRoom returns true, whatever it is called with. Conditions: none.
-/
import Derived.Test.YtnopmdhjamkoaaaEv13
import Derived.Test.YtnopmdhjamkoaaaMod
namespace Go.Proofs.Ytnopmdhjamkoaaa
set_option linter.unusedVariables false
set_option linter.unusedSimpArgs false
open Go.RowKit

/-- The law's own events. -/
def evN (k : Nat) : List Ev := (List.range k).map fun (i : Nat) => ⟨(i : Int), 0, 1 + (i : Int), 0⟩
theorem evN_len (k : Nat) : (evN k).length = k := by simp [evN]
theorem evN_succ (k : Nat) : evN (k + 1) = evN k ++ [⟨(k : Int), 0, 1 + (k : Int), 0⟩] := by simp [evN, List.range_succ]
theorem evN_get {k i : Nat} (h : i < k) : (evN k)[i]? = some ⟨(i : Int), 0, 1 + (i : Int), 0⟩ := by simp [evN, h]
theorem evN_take {k i : Nat} (h : i ≤ k) : (evN k).take i = evN i := by
  simp [evN, ← List.map_take, List.take_range, Nat.min_eq_left h]
theorem evN_chk {i : Nat} (h : i < 300) : (⟨(i : Int), 0, 1 + (i : Int), 0⟩ : Ev).chk = 0 := by
  unfold Ev.chk evC
  simp only
  rw [if_neg (by omega), if_neg (by omega), if_neg (by omega)]
theorem putsE_evN : ∀ k : Nat, k ≤ 300 → putsE ([], 0) (evN k) = (evN (min k 128), k - min k 128)
  | 0, _ => rfl
  | k + 1, h => by
    have ih := putsE_evN k (by omega)
    unfold putsE at ih ⊢
    rw [evN_succ, List.foldl_append, ih, List.foldl_cons, List.foldl_nil]
    unfold putE
    rw [if_neg (by simpa using evN_chk (i := k) (by omega))]
    simp only [evN_len]
    by_cases hk : k < 128
    · rw [if_neg (by omega), show min k 128 = k by omega, show min (k + 1) 128 = k + 1 by omega, evN_succ]
      simp
    · rw [if_pos (by omega), show min k 128 = 128 by omega, show min (k + 1) 128 = 128 by omega]
      exact Prod.ext rfl (show k - 128 + 1 = k + 1 - 128 by omega)
/-- The log behind the first k. -/
def stN (k : Nat) : List Ev × Nat := (evN (min k 128), k - min k 128)
theorem stN_1 (k : Nat) : (stN k).1 = evN (min k 128) := rfl
theorem stN_2 (k : Nat) : (stN k).2 = k - min k 128 := rfl
theorem stN_len (k : Nat) : (stN k).1.length = min k 128 := by rw [stN_1, evN_len]
theorem stN_0 : stN 0 = ([], 0) := by rw [stN, show min 0 128 = 0 from rfl]; rfl
theorem putsE_app (s : List Ev × Nat) (a b : List Ev) : putsE (putsE s a) b = putsE s (a ++ b) := by simp [putsE]
theorem putsE_piece {i J n : Nat} (h1 : i ≤ J) (h2 : J ≤ n) (h3 : n ≤ 300) : putsE (stN i) (((evN n).drop i).take (J - i)) = stN J := by
  unfold stN
  rw [← putsE_evN i (by omega), putsE_app, ← putsE_evN J (by omega)]
  congr 1
  rw [← evN_take (k := n) (i := i) (by omega), ← evN_take (k := n) (i := J) h2]
  have h := List.take_add (l := evN n) (i := i) (j := J - i)
  rw [← h]
  congr 1
  omega
theorem evs_drop : ∀ (L : List Ev) (i : Nat), (evs L).drop (i * 4) = evs (L.drop i)
  | [], i => by simp [evs]
  | a :: L, 0 => by simp [evs]
  | a :: L, i + 1 => by
    have ih := evs_drop L i
    have h : evs (a :: L) = .int .i64 a.t :: .int .i64 a.k :: .int .i64 a.i :: .int .i64 a.r :: evs L := by simp [evs, Ev.cs]
    rw [h, show (i + 1) * 4 = i * 4 + 1 + 1 + 1 + 1 by omega]
    simp only [List.drop_succ_cons, ih]
theorem evs_piece (L : List Ev) (i d : Nat) : ((evs L).drop (i * 4)).take (d * 4) = evs ((L.drop i).take d) := by rw [evs_drop, evs_take]
theorem keep_evN (k : Nat) : keepE (sD 0 fun _ => true) (evN k) = evN k := by
  unfold keepE
  rw [List.filter_eq_self]
  intro x hx
  simp only [evN, List.mem_map, List.mem_range] at hx
  obtain ⟨i, _, rfl⟩ := hx
  simp [sD]
structure RmQ (n i q kq : Nat) : Prop where
  a : q ≤ n
  b : i ≤ n → q = i
  c : n ≤ i → q = n
  d : kq = min q 128
theorem ne4r (w : World) (a b c d : Int) : (binOp .neq 29 (.agg #[.int .i64 a, .int .i64 b, .int .i64 c, .int .i64 d]) (.agg #[.int .i64 a, .int .i64 b, .int .i64 c, .int .i64 d])).run Try.prog w = .ok (.bool false) w := by go_simp
abbrev logB1 (g : Nat) (v : Value) (s : List Ev × Nat) : Nat × TypeId × Array Value := (g, 26, #[v, .int .i64 s.2])
abbrev logR1 (v : Value) (s : List Ev × Nat) : Ro := ⟨29, 4, v, s.1.length, evs s.1⟩
theorem lenL {W w : World} {bl : Bl} {ow : List Ro} {g : Nat} {s : List Ev × Nat} (h : LgAt W bl ow g s w) :
    Calls Try.prog 11 #[.pointer (some ⟨g, 0, none⟩)] w fun r w' => r = .returned (.int .i64 s.1.length) ∧ w' = w := by
  obtain ⟨v, h⟩ := h
  exact len_any W w bl ow g s v h
theorem lostL {W w : World} {bl : Bl} {ow : List Ro} {g : Nat} {s : List Ev × Nat} (h : LgAt W bl ow g s w) :
    Calls Try.prog 12 #[.pointer (some ⟨g, 0, none⟩)] w fun r w' => r = .returned (.int .i64 s.2) ∧ w' = w := by
  obtain ⟨v, h⟩ := h
  exact lost_any W w bl ow g s v h
theorem LgAt.rowAt {W w : World} {bl : Bl} {ow : List Ro} {g : Nat} {s : List Ev × Nat} (h : LgAt W bl ow g s w) {A : Option Addr} {n c : Nat} {X : List Ev} (hy : evRow A n c X ∈ ow) (hn : X.length = n) {k : Nat} {e : Ev} (hk : X[k]? = some e) : ∃ b o, A = some ⟨b, o, none⟩ ∧ EvAt w b o k e := by
  obtain ⟨v, h⟩ := h
  exact h.rowAt (List.mem_cons_of_mem _ hy) hn hk
theorem LgAt.form {W w : World} {bl : Bl} {ow : List Ro} {g : Nat} {s : List Ev × Nat} {A : Option Addr} {n c : Nat} {X : List Ev} (h : LgAt W bl (evRow A n c X :: ow) g s w) (hn : 0 < n) : (∃ b, A = some ⟨b, 0, none⟩) ∧ n ≤ c := by
  obtain ⟨v, h⟩ := h
  obtain ⟨A', c', e, -, -, h1, h2⟩ := own_form (h.row [_])
  injection e with e1 _ e2
  subst e1 e2
  obtain ⟨b, hb, -⟩ := h2 hn
  exact ⟨⟨b, hb⟩, h1⟩
/-- A piece of the law's events is put. -/
theorem LgAt.piece {W w : World} {g b n c i J : Nat} (h : LgAt W [] [evRow (some ⟨b, 0, none⟩) n c (evN n)] g (stN i) w) (h1 : i ≤ J) (h2 : J ≤ n) (h3 : n ≤ 300) (k : Nat) (hk : min i 128 = k) (k' : Nat) (hk' : min J 128 = k') (cc : Nat) :
    Calls Try.prog 6 #[.pointer (some ⟨g, 0, none⟩), .slice (some ⟨b, i * 4, none⟩) (J - i) cc] w fun r w' => r = .returned (.int .i64 ((k' : Int) - k)) ∧ LgAt W [] [evRow (some ⟨b, 0, none⟩) n c (evN n)] g (stN J) w' := by
  have hs : Src W [] [evRow (some ⟨b, 0, none⟩) n c (evN n)] 4 (some ⟨b, 0, none⟩) n (evs (evN n)) := by
    obtain ⟨v, h⟩ := h
    exact h.dropb.dropr.rowSrc (List.mem_cons_self ..)
  have hp := hs.part rfl i (J - i) (by omega)
  rw [evs_piece, Nat.zero_add] at hp
  obtain ⟨P, hP⟩ : ∃ P, ((evN n).drop i).take (J - i) = P := ⟨_, rfl⟩
  have hPl : P.length = J - i := by rw [← hP, List.length_take, List.length_drop, evN_len]; omega
  have hput := putsE_piece h1 h2 h3
  rw [hP] at hp hput
  have := evput_any W w [] _ g _ h P (some ⟨b, i * 4, none⟩) cc (by rw [hPl]; exact hp) (by rw [stN_len]; omega) (by rw [stN_2, hPl]; omega)
  rw [hput, hPl] at this
  refine this.mono ?_
  rintro r w' ⟨rfl, hl⟩
  exact ⟨by rw [stN_len, stN_len, hk, hk'], hl⟩

set_option maxRecDepth 100000 in
set_option maxHeartbeats 8000000 in
theorem eventsRoom_main (W : World) (n0 c0 : Int) :
    Calls Try.prog 4 #[.int .i64 n0, .int .i64 c0] W fun e W' => e = .returned (.bool true) ∧ Below W.heap.size W W' := by
  obtain ⟨T, hT, hT1, hT9⟩ := mod_any n0 300 (by omega) (by omega)
  obtain ⟨C, hC, hC1, hC9⟩ := mod_one c0 50 (by omega) (by omega)
  obtain ⟨n, rfl⟩ : ∃ m : Nat, T = (m : Int) := ⟨T.toNat, by omega⟩
  obtain ⟨u, rfl⟩ : ∃ m : Nat, C = (m : Int) := ⟨C.toNat, by omega⟩
  have HTT := Lib.hid hT
  have HCC := Lib.hid hC
  clear hT hC
  go_enter Try.func4, Try.ntmps4
  go_upto_region 3 with fail
  rw [HTT.out, HCC.out]
  generalize hw1 : World.alloc _ _ = w1
  have L0 := Lib.hid (show Mst W w1 [logB1 W.heap.size (.slice none 0 0) ([], 0)] [logR1 (.slice none 0 0) ([], 0)] by
    rw [← hw1]
    exact ((Mst.start W).new 26 #[.slice none 0 0, .int .i64 0]).nilrow 29 4)
  clear hw1 HTT HCC
  go_wp2_with fail
  go_loopg [6, 7] n (fun gg s6 s7 wr => ∃ k : Nat, k + gg = n ∧ s7 = .int .i64 k ∧ Mst W wr [logB1 W.heap.size (.slice none 0 0) ([], 0)] [⟨29, 4, s6, k, evs (evN k)⟩, logR1 (.slice none 0 0) ([], 0)])
  case atStart => exact ⟨0, by omega, rfl, L0.out.nilrow 29 4⟩
  case round =>
    obtain ⟨k, hk, rfl, hm⟩ := hrel
    clear L0
    obtain ⟨A6, c6, rfl, -, -, hcap, hform⟩ := own_form (hm.row [])
    by_cases hlt : k < n
    · have Mq := Lib.hid ((hm.newrow 29 4 1 1 #[.int .i64 k, .int .i64 0, .int .i64 (1 + (k : Int)), .int .i64 0] (Nat.le_refl _) (by decide) rfl).perm (List.Perm.refl _) (List.Perm.swap _ _ _))
      have i1 : (k : Int) < n := by omega
      have i2 : (0 : Int) ≤ k := by omega
      clear hm hform hcap
      go_wp2_with (at_builtin; refine wpList_appE rfl _ _ 24 rfl [] Mq.out el_event rfl _ (some ⟨wr.heap.size, 0, none⟩) 1 1 [.int .i64 k, .int .i64 0, .int .i64 (1 + (k : Int)), .int .i64 0] rfl (Mq.out.src (Mq.out.rowSrc (List.mem_cons_of_mem _ (List.mem_cons_self ..)))) (ev_one _ _ _ _) (by unfold maxLen; omega) (by omega) ?_; intro A5 c5 w5 N5 X5 hn5 hx5 mq; have Mr := Lib.hid mq; have HN5 := Lib.hid hn5; have HX5 := Lib.hid hx5; clear mq hn5 hx5)
      go_roundg (n - (k + 1))
      case measure => exact meas hk hlt
      case rel => exact ⟨k + 1, meas2 hlt, by go_num, by
        have m := Mr.out.sub (bl' := [_]) (ow' := [_, _]) (List.Sublist.refl _) ((List.sublist_cons_self _ _).cons_cons _)
        have h5 : N5 = k + 1 := HN5.out
        rw [HX5.out, h5] at m
        rw [h5, evN_succ, evs_snoc]
        exact m⟩
    · obtain rfl : k = n := by omega
      have LL := Lib.hid (show LgAt W [] [evRow A6 k c6 (evN k)] W.heap.size (stN 0) wr by
        rw [stN_0]
        exact ⟨_, hm.perm (List.Perm.refl _) (List.Perm.swap _ _ _)⟩)
      clear hm hform hcap hk hlt
      go_wp2_with fail
      go_loopg [8, 9] (k + 50) (fun gg s8 s9 wx => ∃ i q kq : Nat, i + gg = k + 50 ∧ s9 = .int .i64 i ∧ s8 = .int .i64 kq ∧ RmQ k i q kq ∧ LgAt W [] [evRow A6 k c6 (evN k)] W.heap.size (stN q) wx)
      case atStart => exact ⟨0, 0, 0, by omega, rfl, rfl, ⟨by omega, fun _ => rfl, fun _ => by omega, rfl⟩, LL.out⟩
      case round =>
        obtain ⟨i, q, kq, hi, rfl, rfl, hQ, L⟩ := hrel
        clear LL
        by_cases hlt : i < k
        · obtain rfl : q = i := hQ.b (by omega)
          obtain ⟨⟨b, rfl⟩, hcap⟩ := L.form (by omega)
          obtain ⟨J, hJ1, hJ2, hJ3⟩ : ∃ J, q < J ∧ J ≤ k ∧ ((J = q + u ∧ ((q : Int) + u ≤ k)) ∨ (J = k ∧ (k : Int) < (q : Int) + u)) := by
            by_cases h : q + u ≤ k
            · exact ⟨q + u, by omega, h, .inl ⟨rfl, by omega⟩⟩
            · exact ⟨k, by omega, by omega, .inr ⟨rfl, by omega⟩⟩
          have hP := fun kJ hkJ cc => L.piece (i := q) (J := J) (by omega) hJ2 (by omega) kq hQ.d.symm kJ hkJ cc
          obtain ⟨kJ, hkJ⟩ : ∃ x, min J 128 = x := ⟨_, rfl⟩
          have HP := Lib.hid (hP kJ hkJ (c6 - q))
          have HKJ := Lib.hid hkJ
          have hkq : kq ≤ q := by rw [hQ.d]; omega
          have hkJ2 : kJ ≤ J := by omega
          have i1 : (q : Int) < k := by omega
          have i2 : (0 : Int) ≤ q := by omega
          have i3 : (k : Int) < 300 := by omega
          have i4 : (kq : Int) ≤ q := by omega
          have i5 : (kJ : Int) ≤ 300 := by omega
          have i6 : (0 : Int) ≤ kJ := by omega
          have i7 : (0 : Int) ≤ kq := by omega
          have i8 : (J : Int) ≤ k := by omega
          have i9 : (q : Int) < J := by omega
          have i10 : (k : Int) ≤ c6 := by omega
          have HI := Lib.hid hi
          clear hP hkJ hQ L hkq hkJ2 hi
          rcases hJ3 with ⟨hj, hle⟩ | ⟨rfl, hgt⟩
          · have j1 : ¬ (k : Int) < (q : Int) + u := by omega
            have j2 : min ((q : Int) + u) (k : Int) = (q : Int) + u := by omega
            have HJ := Lib.hid hj
            have hp := HP.out
            rw [show J - q = u by omega] at hp
            have HP := Lib.hid hp
            clear hp hj i8 i9
            go_wp2_with fail
            with_reducible refine HP.out.mono ?_
            rintro r w5 ⟨rfl, hl⟩
            have LL := Lib.hid hl
            clear hl
            go_wp2_with fail
            go_roundg (k + 50 - (q + u))
            case measure => have := HI.out; omega
            case rel => exact ⟨q + u, J, kJ, by have := HI.out; omega, by go_num, by go_num, ⟨hJ2, fun _ => HJ.out, fun _ => by have := HJ.out; omega, HKJ.out.symm⟩, LL.out⟩
          · have j1 : (J : Int) < (q : Int) + u := by omega
            have j2 : min ((q : Int) + u) (J : Int) = (J : Int) := by omega
            go_wp2_with fail
            with_reducible refine HP.out.mono ?_
            rintro r w5 ⟨rfl, hl⟩
            have LL := Lib.hid hl
            clear hl
            go_wp2_with fail
            go_roundg (J + 50 - (q + u))
            case measure => have := HI.out; omega
            case rel => exact ⟨q + u, J, kJ, by have := HI.out; omega, by go_num, by go_num, ⟨by omega, fun _ => by omega, fun _ => rfl, HKJ.out.symm⟩, LL.out⟩
        · obtain rfl : q = k := hQ.c (by omega)
          have hkq := hQ.d
          have HKQ := Lib.hid hkq
          have LL := Lib.hid L
          have i1 : ¬ (i : Int) < q := by omega
          have i2 : (q : Int) < 300 := by omega
          have i3 : (kq : Int) ≤ q := by omega
          have i4 : (0 : Int) ≤ kq := by omega
          have i5 : (kq : Int) ≤ 128 := by omega
          have hc : (kq = q ∧ ¬ (128 : Int) < q) ∨ (kq = 128 ∧ (128 : Int) < q) := by
            by_cases h : (128 : Int) < q
            · exact .inr ⟨by omega, h⟩
            · exact .inl ⟨by omega, h⟩
          have HRD := Lib.hid (show ∀ w' ow, LgAt W [] ow W.heap.size (stN q) w' → Calls Try.prog 9 #[.pointer (some ⟨W.heap.size, 0, none⟩), .int .i64 0, .slice none 0 0] w' fun r w2 => ∃ A' c', r = .returned (.slice A' kq c') ∧ LgAt W [] (evRow A' kq c' (evN kq) :: ow) W.heap.size (stN q) w2 from fun w' ow h => by
            refine (readL h (by rw [stN_len]; omega) (fun e he => by
              rw [stN_1] at he
              simp only [evN, List.mem_map, List.mem_range] at he
              obtain ⟨x, _, rfl⟩ := he
              exact ⟨by simp, by simp⟩) 0 (by decide)).mono ?_
            rintro r w2 ⟨A', n', c', rfl, hn', hl⟩
            rw [stN_1, keep_evN, ← hkq] at hn' hl
            rw [evN_len] at hn'
            subst hn'
            exact ⟨A', c', rfl, hl⟩)
          have HLN := Lib.hid (show ∀ w' ow, LgAt W [] ow W.heap.size (stN q) w' → Calls Try.prog 11 #[.pointer (some ⟨W.heap.size, 0, none⟩)] w' fun r w2 => r = .returned (.int .i64 kq) ∧ w2 = w' from fun w' ow h => by
            have := lenL h
            rw [stN_len, ← hkq] at this
            exact this)
          have HLO := Lib.hid (show ∀ w' ow, LgAt W [] ow W.heap.size (stN q) w' → Calls Try.prog 12 #[.pointer (some ⟨W.heap.size, 0, none⟩)] w' fun r w2 => r = .returned (.int .i64 ((q : Int) - kq)) ∧ w2 = w' from fun w' ow h => by
            have := lostL h
            rw [stN_2, ← hkq, show ((q - kq : Nat) : Int) = (q : Int) - kq by omega] at this
            exact this)
          have hne : (((kq : Nat) : Int) != ((kq : Nat) : Int)) = false := by simp
          have hne2 : (((q : Int) - (kq : Int)) != ((q : Int) - (kq : Int))) = false := by simp
          have HQK := Lib.hid (show kq ≤ q by omega)
          clear hkq hQ L hi
          have hq0 : 0 ≤ kq := Nat.zero_le _
          rcases hc with ⟨hc1, hc2⟩ | ⟨hc1, hc2⟩
          · subst hc1
            go_upto_region 14 with fail
            go_wp2_with fail
            with_reducible refine (HRD.out _ _ LL.out).mono ?_
            rintro r w3 ⟨A7, c7, rfl, hl⟩
            have LL := Lib.hid hl
            clear hl
            go_wp2_with fail
            with_reducible refine (HLN.out _ _ LL.out).mono ?_
            rintro r w4 ⟨rfl, rfl⟩
            go_wp2_with fail
            with_reducible refine (HLO.out _ _ LL.out).mono ?_
            rintro r w5 ⟨rfl, rfl⟩
            go_wp2_with fail
            go_loopg [12] kq (fun gg s12 wy => ∃ j Q : Nat, j + gg = kq ∧ kq ≤ Q ∧ s12 = .int .i64 j ∧ LgAt W [] [evRow A7 kq c7 (evN kq), evRow A6 Q c6 (evN Q)] W.heap.size (stN Q) wy)
            case atStart => exact ⟨0, _, by omega, HQK.out, rfl, LL.out⟩
            case round =>
              obtain ⟨j, Q, hj, hjQ, rfl, L⟩ := hrel
              clear LL
              by_cases hjl : j < kq
              · obtain ⟨b4, o4, hA4, p0, p1, p2, p3⟩ := L.rowAt (A := A7) (n := kq) (c := c7) (by simp) (evN_len _) (evN_get hjl)
                obtain ⟨b3, o3, hA3, q0, q1, q2, q3⟩ := L.rowAt (A := A6) (n := Q) (c := c6) (by simp) (evN_len _) (evN_get (show j < Q by omega))
                subst hA4 hA3
                have LL := Lib.hid L
                have HJQ := Lib.hid hjQ
                have hne4 := fun w' => ne4r w' (j : Int) 0 (1 + (j : Int)) 0
                have j1 : (j : Int) < kq := by omega
                have j2 : (0 : Int) ≤ j := by omega
                have j3 : (j : Int) < Q := by omega
                simp only at p0 p1 p2 p3 q0 q1 q2 q3
                clear L
                go_wp2_with fail
                go_quiet (fail)
                go_wp2_with fail
                go_roundg (kq - (j + 1))
                case measure => exact meas hj hjl
                case rel => exact ⟨j + 1, Q, meas2 hjl, HJQ.out, by go_num, LL.out.below (Bdn (Below.refl _ _) _)⟩
              · obtain rfl : j = kq := by omega
                have LL := Lib.hid L
                clear L hj hjl
                go_wp2_with fail
                with_reducible refine (known27 _).mono ?_
                rintro r w5 ⟨rfl, hb⟩
                have LL := Lib.hid (LL.out.below hb)
                clear hb
                go_wp2
                go_ret
                exact ⟨rfl, LL.out.bel⟩
          · have HC1 := Lib.hid (show (128 : Int) = (kq : Int) by omega)
            clear hc1
            go_upto_region 14 with fail
            rw [HC1.out]
            go_wp2_with fail
            with_reducible refine (HRD.out _ _ LL.out).mono ?_
            rintro r w3 ⟨A7, c7, rfl, hl⟩
            have LL := Lib.hid hl
            clear hl
            go_wp2_with fail
            with_reducible refine (HLN.out _ _ LL.out).mono ?_
            rintro r w4 ⟨rfl, rfl⟩
            go_wp2_with fail
            with_reducible refine (HLO.out _ _ LL.out).mono ?_
            rintro r w5 ⟨rfl, rfl⟩
            go_wp2_with fail
            go_loopg [12] kq (fun gg s12 wy => ∃ j Q : Nat, j + gg = kq ∧ kq ≤ Q ∧ s12 = .int .i64 j ∧ LgAt W [] [evRow A7 kq c7 (evN kq), evRow A6 Q c6 (evN Q)] W.heap.size (stN Q) wy)
            case atStart => exact ⟨0, _, by omega, HQK.out, rfl, LL.out⟩
            case round =>
              obtain ⟨j, Q, hj, hjQ, rfl, L⟩ := hrel
              clear LL
              by_cases hjl : j < kq
              · obtain ⟨b4, o4, hA4, p0, p1, p2, p3⟩ := L.rowAt (A := A7) (n := kq) (c := c7) (by simp) (evN_len _) (evN_get hjl)
                obtain ⟨b3, o3, hA3, q0, q1, q2, q3⟩ := L.rowAt (A := A6) (n := Q) (c := c6) (by simp) (evN_len _) (evN_get (show j < Q by omega))
                subst hA4 hA3
                have LL := Lib.hid L
                have HJQ := Lib.hid hjQ
                have hne4 := fun w' => ne4r w' (j : Int) 0 (1 + (j : Int)) 0
                have j1 : (j : Int) < kq := by omega
                have j2 : (0 : Int) ≤ j := by omega
                have j3 : (j : Int) < Q := by omega
                simp only at p0 p1 p2 p3 q0 q1 q2 q3
                clear L
                go_wp2_with fail
                go_quiet (fail)
                go_wp2_with fail
                go_roundg (kq - (j + 1))
                case measure => exact meas hj hjl
                case rel => exact ⟨j + 1, Q, meas2 hjl, HJQ.out, by go_num, LL.out.below (Bdn (Below.refl _ _) _)⟩
              · obtain rfl : j = kq := by omega
                have LL := Lib.hid L
                clear L hj hjl
                go_wp2_with fail
                with_reducible refine (known27 _).mono ?_
                rintro r w5 ⟨rfl, hb⟩
                have LL := Lib.hid (LL.out.below hb)
                clear hb
                go_wp2
                go_ret
                exact ⟨rfl, LL.out.bel⟩
theorem contract_eventsRoom (W : World) (v0 v1 : Value) (a0 : ∃ z, v0 = .int .i64 z ∧ in64 z) (a1 : ∃ z, v1 = .int .i64 z ∧ in64 z) :
    Calls Try.prog 4 #[v0, v1] W fun e W' => e = .returned (.bool true) ∧ Below W.heap.size W W' := by
  obtain ⟨x, rfl, hx⟩ := a0
  obtain ⟨y, rfl, hy⟩ := a1
  exact eventsRoom_main W x y
end Go.Proofs.Ytnopmdhjamkoaaa
