/-
  vigillaw27.EventsPlays returns true, whatever it is called with. Conditions: none but that the slices can be read.
-/
import Derived.Test.YtnopmdhjamkoaaaEv17
import Derived.Test.YtnopmdhjamkoaaaMod
namespace Go.Proofs.Ytnopmdhjamkoaaa
set_option linter.unusedVariables false
set_option linter.unusedSimpArgs false
open Go.RowKit

/-- What is known behind k events. -/
def PlR (W : World) (g : Nat) (l : List Ev) (k : Nat) (q lo : Nat) (s12 : Value) (w : World) : Prop := ∃ A c, s12 = .slice A q c ∧ (putsE ([], 0) (l.take k)).1.length = q ∧ (putsE ([], 0) (l.take k)).2 = lo ∧ LgAt W [] [rfRow A q c (putsE ([], 0) (l.take k)).1] g (putsE ([], 0) (l.take k)) w

set_option maxRecDepth 100000 in
set_option maxHeartbeats 8000000 in
theorem eventsPlays_main (W : World) (A1 : Option Addr) (c1 : Nat) (l : List Ev) (hl : Rd W W.heap.size 4 A1 l.length (evs l)) (hln : l.length ≤ 9223372036854775807) (m0 tick id0 : Int) (A2 : Option Addr) (c2 : Nat) (ks0 : List Int) (hk0 : Rd W W.heap.size 1 A2 ks0.length (iv ks0)) (hkc : ks0.length ≤ c2) (hkc2 : c2 ≤ 9223372036854775807) :
    Calls Try.prog 5 #[.slice A1 l.length c1, .int .i64 m0, .int .i64 tick, .int .i64 id0, .slice A2 ks0.length c2] W fun e W' => e = .returned (.bool true) ∧ Below W.heap.size W W' := by
  obtain ⟨T, hT, hT1, hT9⟩ := mod_any m0 256 (by omega) (by omega)
  obtain ⟨m, rfl⟩ : ∃ m : Nat, T = (m : Int) := ⟨T.toNat, by omega⟩
  have HTT := Lib.hid hT
  have HM := Lib.hid (show m < 256 by omega)
  obtain ⟨n, hn⟩ : ∃ n, l.length = n := ⟨_, rfl⟩
  obtain ⟨u, hu⟩ : ∃ n, ks0.length = n := ⟨_, rfl⟩
  have HL := Lib.hid hl
  have HN := Lib.hid hn
  obtain ⟨ks, hks⟩ : ∃ ks, ks0.take 6 = ks := ⟨_, rfl⟩
  obtain ⟨v, hv⟩ : ∃ n, ks.length = n := ⟨_, rfl⟩
  have hv6 : v ≤ u ∧ v ≤ 6 ∧ (v = u ∨ (v = 6 ∧ 6 < u)) := by
    rw [← hv, ← hks, List.length_take, hu]
    omega
  have hkr := iv_take hk0 6
  rw [hks] at hkr
  have HKR := Lib.hid hkr
  have HKL := Lib.hid hv
  rw [hn] at hln ⊢
  rw [hu] at hkc ⊢
  have HH := Lib.hid (show Lg W (W.alloc (.cells #[.slice none 0 0, .int .i64 0] 26)) [] [rfRow none 0 0 []] W.heap.size ([], 0) (.slice none 0 0) from (((Mst.start W).nilrow 31 4).new 26 #[.slice none 0 0, .int .i64 0]).nilrow 29 4)
  clear hT hl hn hT1 hT9 hk0 hu hks hv hkr
  obtain ⟨N, hN1, hN2, hN3⟩ : ∃ N : Nat, N ≤ n ∧ N ≤ 200 ∧ (N = n ∨ N = 200) := ⟨min n 200, by omega, by omega, by omega⟩
  have HN3 := Lib.hid hN3
  obtain ⟨hv1, hv2, hv3⟩ := hv6
  have hmn : min (u : Int) 6 = (v : Int) := by omega
  have i1 : (u : Int) ≤ c2 := by omega
  have i2 : (v : Int) ≤ 6 := by omega
  have i3 : (0 : Int) ≤ v := by omega
  have i4 : (v : Int) ≤ u := by omega
  have i5 : (c2 : Int) ≤ 9223372036854775807 := by omega
  have hc : (v = u ∧ ¬ (6 : Int) < u) ∨ (v = 6 ∧ (6 : Int) < u) := by
    rcases hv3 with h | h
    · exact .inl ⟨h, by omega⟩
    · exact .inr ⟨h.1, by omega⟩
  clear hN3 hv3
  go_enter Try.func5, Try.ntmps5
  go_upto_region 4 with fail
  rw [HTT.out]
  generalize hw1 : World.alloc _ _ = w1
  have L0 := Lib.hid (hw1 ▸ HH.out)
  clear hw1 HH
  go_cut [4] (fun s4 w => s4 = .slice A2 v c2 ∧ w1 = w)
  case first =>
    rcases hc with ⟨hc1, hc2⟩ | ⟨hc1, hc2⟩
    all_goals (
      have HC1 := Lib.hid hc1
      clear hc1 hmn
      go_wp2_with fail
      go_meet
      exact ⟨congrArg (fun z => Value.slice A2 z c2) (by have := HC1.out; omega), rfl⟩)
  case rest =>
    obtain ⟨rfl, rfl⟩ := hcut
    clear hc hmn
    go_wp2_with fail
    go_loopg [12, 13, 14] N (fun gg s12 s13 s14 wr => ∃ k q lo : Nat, k + gg = N ∧ s14 = .int .i64 k ∧ s13 = .int .i64 lo ∧ q ≤ 128 ∧ lo ≤ k ∧ PlR W W.heap.size l k q lo s12 wr)
    case atStart => exact ⟨0, 0, 0, by omega, rfl, rfl, by decide, Nat.le_refl _, none, 0, rfl, rfl, rfl, _, L0.out⟩
    case round =>
      obtain ⟨k, q, lo, hk, rfl, rfl, hq, hlo, A, c, rfl, h1, h2, L⟩ := hrel
      clear L0
      obtain ⟨s, hs⟩ : ∃ s, putsE ([], 0) (l.take k) = s := ⟨_, rfl⟩
      rw [hs] at h1 h2 L
      have LL := Lib.hid L
      have HS0 := Lib.hid hs
      by_cases hlt : k < N
      · obtain ⟨e, he⟩ : ∃ e, l[k]? = some e := ⟨_, List.getElem?_eq_getElem (by rw [HN.out]; omega)⟩
        obtain ⟨b, o, rfl, hb, pe⟩ := HL.out.evAt he
        have HE := Lib.hid pe
        have HST := Lib.hid (putsE_snoc ([], 0) l k e he)
        obtain ⟨s', hs'⟩ : ∃ s', putE s e = s' := ⟨_, rfl⟩
        obtain ⟨q', hq'⟩ : ∃ q', s'.1.length = q' := ⟨_, rfl⟩
        obtain ⟨lo', hlo'⟩ : ∃ q', s'.2 = q' := ⟨_, rfl⟩
        have hq128 : q' ≤ 128 := by rw [← hq', ← hs']; exact putE_len s e (by omega)
        have hlost := putE_lost s e
        rw [hs', hlo', hq', h1, h2] at hlost
        have HRP := Lib.hid (show Calls Try.prog 13 #[.slice A q c, .agg #[.int .i64 e.t, .int .i64 e.k, .int .i64 e.i, .int .i64 e.r]] wr fun r w' => ∃ A' c', r = .returned (.slice A' q' c') ∧ LgAt W [] [rfRow A' q' c' s'.1] W.heap.size s w' from by
          have h := refputL (W := W) (w := wr) (bl := []) (ow := []) (g := W.heap.size) (s := s) (A := A) (c := c) (by rw [h1]; exact L) (by omega) e
          rw [h1, hs', hq'] at h
          refine h.mono ?_
          rintro r w' ⟨A', n', c', rfl, rfl, hl⟩
          exact ⟨A', c', rfl, hl⟩)
        have HPU := Lib.hid (show ∀ w' ow w1, LgAt W [] ow W.heap.size s w' → w'.alloc (.cells #[.int .i64 e.t, .int .i64 e.k, .int .i64 e.i, .int .i64 e.r] 29) = w1 → Calls Try.prog 6 #[.pointer (some ⟨W.heap.size, 0, none⟩), .slice (some ⟨w'.heap.size, 0, none⟩) 1 1] w1 fun r w2 => r = .returned (.int .i64 ((q' : Int) - q)) ∧ LgAt W [] ow W.heap.size s' w2 from fun w' ow w1 h hw => by
          have := evput1 h e (by omega) (by omega) hw
          rw [hs', hq', h1] at this
          exact this)
        have HCE := Lib.hid (show ∀ w' ow s, LgAt W [] ow W.heap.size s w' → EvAt w' b o k e from fun w' ow s h => h.evAt hb pe)
        obtain ⟨ck, hck⟩ : ∃ ck, e.chk = ck := ⟨_, rfl⟩
        have HC1 := Lib.hid (show ∀ w', Calls Try.prog 8 #[.agg #[.int .i64 e.t, .int .i64 e.k, .int .i64 e.i, .int .i64 e.r]] w' fun r w2 => r = .returned (.int .i64 ck) ∧ Below w'.heap.size w' w2 from fun w' => by
          have := refcheck27_any e.t e.k e.i e.r w'
          rw [show evC e.t e.k e.i e.r = ck from hck] at this
          exact this)
        have HC2 := Lib.hid (show ∀ w', Calls Try.prog 14 #[.agg #[.int .i64 e.t, .int .i64 e.k, .int .i64 e.i, .int .i64 e.r]] w' fun r w2 => r = .returned (.int .i64 ck) ∧ Below w'.heap.size w' w2 from fun w' => by
          have := evcheck_any e.t e.k e.i e.r w'
          rw [show evC e.t e.k e.i e.r = ck from hck] at this
          exact this)
        rw [hck] at hlost
        have hcase : ((ck == 0) = false ∧ lo' = lo) ∨ ((ck == 0) = true ∧ ((q' : Int) == (q : Int)) = true ∧ lo' = lo + 1) ∨ ((ck == 0) = true ∧ ((q' : Int) == (q : Int)) = false ∧ lo' = lo) := by
          by_cases c0 : ck = 0
          · by_cases c1 : q' = q
            · rw [if_pos ⟨c0, c1⟩] at hlost
              exact .inr (.inl ⟨by simpa using c0, by simp [c1], hlost⟩)
            · rw [if_neg (fun h => c1 h.2)] at hlost
              exact .inr (.inr ⟨by simpa using c0, by simp; omega, hlost⟩)
          · rw [if_neg (fun h => c0 h.1)] at hlost
            exact .inl ⟨by simpa using c0, hlost⟩
        have HFIN := Lib.hid (show (putsE ([], 0) (l.take (k + 1))).1.length = q' ∧ (putsE ([], 0) (l.take (k + 1))).2 = lo' ∧ putsE ([], 0) (l.take (k + 1)) = s' by
          rw [HST.out, HS0.out, hs']
          exact ⟨hq', hlo', rfl⟩)
        have i6 : (k : Int) < n := by omega
        have i7 : (k : Int) < 200 := by omega
        have i8 : (0 : Int) ≤ k := by omega
        have i9 : (q' : Int) ≤ 128 := by omega
        have i10 : (q : Int) ≤ 128 := by omega
        have i11 : (0 : Int) ≤ q := by omega
        have i12 : (0 : Int) ≤ q' := by omega
        have i13 : (lo : Int) ≤ 200 := by omega
        have i14 : (0 : Int) ≤ lo := by omega
        obtain ⟨et, ek, ei, er⟩ := e
        simp only at HRP HPU HC1 HC2
        obtain ⟨p0, p1, p2, p3⟩ := LL.out.evAt hb HE.out
        simp only at p0 p1 p2 p3
        clear he pe hs hs' hq' hlo' hlost hck h1 h2 L HST HS0
        go_wp2_with fail
        with_reducible refine HRP.out.mono ?_
        rintro r w3 ⟨A3, c3, rfl, hl⟩
        have LL := Lib.hid hl
        clear hl p0 p1 p2 p3 HRP
        obtain ⟨p0, p1, p2, p3⟩ := LL.out.evAt hb HE.out
        simp only at p0 p1 p2 p3
        go_wp2_with fail
        with_reducible refine (HC1.out _).mono ?_
        rintro r w4 ⟨rfl, hb4⟩
        have LL := Lib.hid (LL.out.below hb4)
        clear hb4 p0 p1 p2 p3
        have hne1 : (((q' : Int) - (q : Int)) != ((q' : Int) - (q : Int))) = false := by simp
        have hne2 : (ck != ck) = false := by simp
        have hwr : IntKind.i64.wrap ((q' : Int) - (q : Int)) = (q' : Int) - (q : Int) := IntWalk.i64_in _ (by omega)
        rcases hcase with ⟨f1, rfl⟩ | ⟨f1, f2, rfl⟩ | ⟨f1, f2, rfl⟩
        all_goals (
          go_upto_region 12 with fail
          have K0 := Lib.hid (HCE.out _ _ _ (LL.out.below (Below.refl _ _).drew))
          refine wp_region_held_drew (S := fun w' => w'.cell? ⟨b, o + k * 4, none⟩ = some (.int .i64 et) ∧ w'.cell? ⟨b, o + k * 4 + 1, none⟩ = some (.int .i64 ek) ∧ w'.cell? ⟨b, o + k * 4 + 2, none⟩ = some (.int .i64 ei) ∧ w'.cell? ⟨b, o + k * 4 + 3, none⟩ = some (.int .i64 er)) (by kernel_rfl) ?_ (fun hHeld => ?_)
          · exact K0.out
          generalize hw7 : World.drew _ = w7 at hHeld ⊢
          have LL := Lib.hid (show LgAt W [] [rfRow A3 q' c3 s'.1] W.heap.size s w7 from hw7 ▸ LL.out.below (Below.refl _ _).drew)
          clear hw7
          refine wpAnyH_take (i := 0) (v := ?_) rfl (by kernel_rfl) (by kernel_rfl) (by kernel_rfl) (fun _ _ _ h => h) (Or.inl ⟨by rfl, ?_⟩) (by assumption) ?_
          rotate_left
          · intro w hSw; (try dsimp only at hSw); go_split_ands; go_simp; with_reducible rfl
          change wpAnyH _ _ _ _ _ _ _ (Act.put _ (some 56) _) _
          simp only [Act.put, List.setIfInBounds_toArray, List.set_cons_zero, List.set_cons_succ, Array.toArray_toList]
          refine wpAnyH_take (i := 1) (v := ?_) rfl (by kernel_rfl) (by kernel_rfl) (by kernel_rfl) (fun _ _ _ h => h) (Or.inl ⟨by rfl, ?_⟩) (by assumption) ?_
          rotate_left
          · intro w hSw; (try dsimp only at hSw); go_split_ands; go_simp; with_reducible rfl
          change wpAnyH _ _ _ _ _ _ _ (Act.put _ (some 57) _) _
          simp only [Act.put, List.setIfInBounds_toArray, List.set_cons_zero, List.set_cons_succ, Array.toArray_toList]
          refine wpAnyH_take (i := 2) (v := ?_) rfl (by kernel_rfl) (by kernel_rfl) (by kernel_rfl) (fun _ _ _ h => h) (Or.inl ⟨by rfl, ?_⟩) (by assumption) ?_
          rotate_left
          · intro w hSw; (try dsimp only at hSw); go_split_ands; go_simp; with_reducible rfl
          change wpAnyH _ _ _ _ _ _ _ (Act.put _ (some 58) _) _
          simp only [Act.put, List.setIfInBounds_toArray, List.set_cons_zero, List.set_cons_succ, Array.toArray_toList]
          refine wpAnyH_take (i := 3) (v := ?_) rfl (by kernel_rfl) (by kernel_rfl) (by kernel_rfl) (fun _ _ _ h => h) (Or.inl ⟨by rfl, ?_⟩) (by assumption) ?_
          rotate_left
          · intro w hSw; (try dsimp only at hSw); go_split_ands; go_simp; with_reducible rfl
          change wpAnyH _ _ _ _ _ _ _ (Act.put _ (some 59) _) _
          simp only [Act.put, List.setIfInBounds_toArray, List.set_cons_zero, List.set_cons_succ, Array.toArray_toList]
          refine wpAnyH_take (i := 7) (v := ?_) rfl (by kernel_rfl) (by kernel_rfl) (by kernel_rfl) (fun _ _ _ h => h) (Or.inl ⟨by rfl, ?_⟩) (by assumption) ?_
          rotate_left
          · intro w hSw; (try dsimp only at hSw); go_split_ands; go_simp; with_reducible rfl
          change wpAnyH _ _ _ _ _ _ _ (Act.put _ (some 63) _) _
          simp only [Act.put, List.setIfInBounds_toArray, List.set_cons_zero, List.set_cons_succ, Array.toArray_toList]
          refine wpAnyH_take (i := 8) (v := ?_) rfl (by kernel_rfl) (by kernel_rfl) (by kernel_rfl) (fun _ _ _ h => h) (Or.inl ⟨by rfl, ?_⟩) (by assumption) ?_
          rotate_left
          · intro w hSw; (try dsimp only at hSw); go_split_ands; go_simp; with_reducible rfl
          change wpAnyH _ _ _ _ _ _ _ (Act.put _ (some 64) _) _
          simp only [Act.put, List.setIfInBounds_toArray, List.set_cons_zero, List.set_cons_succ, Array.toArray_toList]
          refine wpAnyH_take (i := 9) (v := ?_) rfl (by kernel_rfl) (by kernel_rfl) (by kernel_rfl) (fun _ _ _ h => h) (Or.inl ⟨by rfl, ?_⟩) (by assumption) ?_
          rotate_left
          · intro w hSw; (try dsimp only at hSw); go_split_ands; go_simp; with_reducible rfl
          change wpAnyH _ _ _ _ _ _ _ (Act.put _ (some 65) _) _
          simp only [Act.put, List.setIfInBounds_toArray, List.set_cons_zero, List.set_cons_succ, Array.toArray_toList]
          refine wpAnyH_take (i := 10) (v := ?_) rfl (by kernel_rfl) (by kernel_rfl) (by kernel_rfl) (fun _ _ _ h => h) (Or.inl ⟨by rfl, ?_⟩) (by assumption) ?_
          rotate_left
          · intro w hSw; (try dsimp only at hSw); go_split_ands; go_simp; with_reducible rfl
          change wpAnyH _ _ _ _ _ _ _ (Act.put _ (some 66) _) _
          simp only [Act.put, List.setIfInBounds_toArray, List.set_cons_zero, List.set_cons_succ, Array.toArray_toList]
          refine wpAnyH_take (i := 11) (v := ?_) rfl (by kernel_rfl) (by kernel_rfl) (by kernel_rfl) (fun _ _ _ h => h) (Or.inl ⟨by rfl, ?_⟩) (by assumption) ?_
          rotate_left
          · intro w hSw; (try dsimp only at hSw); go_split_ands; go_simp; with_reducible rfl
          change wpAnyH _ _ _ _ _ _ _ (Act.put _ (some 67) _) _
          simp only [Act.put, List.setIfInBounds_toArray, List.set_cons_zero, List.set_cons_succ, Array.toArray_toList]
          refine wpAnyH_ready (rs := [4]) (by kernel_rfl) (by simp) ?_
          refine (AllReadyH.cons rfl (fun K hK => ?_) AllReadyH.nil)
          go_simp
          (with_reducible refine (to27_any _ _ _ _ _).mono ?_); rintro r wq ⟨rfl, hb4⟩; have LL := Lib.hid (LL.out.below hb4); clear hb4
          go_wp2_with fail
          refine hK.out _ _ (by first | exact HCE.out _ _ _ LN.out | exact HCE.out _ _ _ LL.out) (fun hHeld => ?_)
          clear hK K
          refine wpAnyH_ready (rs := [5]) (by kernel_rfl) (by simp) ?_
          refine (AllReadyH.cons rfl (fun K hK => ?_) AllReadyH.nil)
          go_simp; generalize hwq : World.alloc _ _ = wp; have LN := Lib.hid (show LgAt W [] [rfRow A3 q' c3 s'.1] W.heap.size s wp from hwq ▸ LL.out.below ((Below.refl _ _).alloc (Nat.le_refl _) _))
          refine hK.out _ _ (by first | exact HCE.out _ _ _ LN.out | exact HCE.out _ _ _ LL.out) (fun hHeld => ?_)
          clear hK K
          refine wpAnyH_ready (rs := [6]) (by kernel_rfl) (by simp) ?_
          refine (AllReadyH.cons rfl (fun K hK => ?_) AllReadyH.nil)
          go_simp
          (with_reducible refine (HPU.out _ _ _ LL.out hwq).mono ?_); rintro r wq2 ⟨rfl, hl⟩; have LL := Lib.hid hl; clear hl hwq LN
          go_wp2_with fail
          refine hK.out _ _ (by first | exact HCE.out _ _ _ LN.out | exact HCE.out _ _ _ LL.out) (fun hHeld => ?_)
          clear hK K
          refine wpAnyH_take (i := 12) (v := ?_) rfl (by kernel_rfl) (by kernel_rfl) (by kernel_rfl) (fun _ _ _ h => h) (Or.inl ⟨by rfl, ?_⟩) (by assumption) ?_
          rotate_left
          · intro w hSw; (try dsimp only at hSw); go_split_ands; go_simp; with_reducible rfl
          change wpAnyH _ _ _ _ _ _ _ (Act.put _ (some 68) _) _
          simp only [Act.put, List.setIfInBounds_toArray, List.set_cons_zero, List.set_cons_succ, Array.toArray_toList]
          refine wpAnyH_take (i := 13) (v := ?_) rfl (by kernel_rfl) (by kernel_rfl) (by kernel_rfl) (fun _ _ _ h => h) (Or.inl ⟨by rfl, ?_⟩) (by assumption) ?_
          rotate_left
          · intro w hSw; (try dsimp only at hSw); go_split_ands; go_simp; with_reducible rfl
          change wpAnyH _ _ _ _ _ _ _ (Act.put _ (some 69) _) _
          simp only [Act.put, List.setIfInBounds_toArray, List.set_cons_zero, List.set_cons_succ, Array.toArray_toList]
          refine wpAnyH_take (i := 14) (v := ?_) rfl (by kernel_rfl) (by kernel_rfl) (by kernel_rfl) (fun _ _ _ h => h) (Or.inl ⟨by rfl, ?_⟩) (by assumption) ?_
          rotate_left
          · intro w hSw; (try dsimp only at hSw); go_split_ands; go_simp; with_reducible rfl
          change wpAnyH _ _ _ _ _ _ _ (Act.put _ (some 70) _) _
          simp only [Act.put, List.setIfInBounds_toArray, List.set_cons_zero, List.set_cons_succ, Array.toArray_toList]
          refine wpAnyH_take (i := 15) (v := ?_) rfl (by kernel_rfl) (by kernel_rfl) (by kernel_rfl) (fun _ _ _ h => h) (Or.inl ⟨by rfl, ?_⟩) (by assumption) ?_
          rotate_left
          · intro w hSw; (try dsimp only at hSw); go_split_ands; go_simp; with_reducible rfl
          change wpAnyH _ _ _ _ _ _ _ (Act.put _ (some 71) _) _
          simp only [Act.put, List.setIfInBounds_toArray, List.set_cons_zero, List.set_cons_succ, Array.toArray_toList]
          refine wpAnyH_take (i := 16) (v := ?_) rfl (by kernel_rfl) (by kernel_rfl) (by kernel_rfl) (fun _ _ _ h => h) (Or.inl ⟨by rfl, ?_⟩) (by assumption) ?_
          rotate_left
          · intro w hSw; (try dsimp only at hSw); go_split_ands; go_simp; with_reducible rfl
          change wpAnyH _ _ _ _ _ _ _ (Act.put _ (some 72) _) _
          simp only [Act.put, List.setIfInBounds_toArray, List.set_cons_zero, List.set_cons_succ, Array.toArray_toList]
          refine wpAnyH_take (i := 17) (v := ?_) rfl (by kernel_rfl) (by kernel_rfl) (by kernel_rfl) (fun _ _ _ h => h) (Or.inl ⟨by rfl, ?_⟩) (by assumption) ?_
          rotate_left
          · intro w hSw; (try dsimp only at hSw); go_split_ands; go_simp; with_reducible rfl
          change wpAnyH _ _ _ _ _ _ _ (Act.put _ (some 73) _) _
          simp only [Act.put, List.setIfInBounds_toArray, List.set_cons_zero, List.set_cons_succ, Array.toArray_toList]
          refine wpAnyH_take (i := 20) (v := ?_) rfl (by kernel_rfl) (by kernel_rfl) (by kernel_rfl) (fun _ _ _ h => h) (Or.inl ⟨by rfl, ?_⟩) (by assumption) ?_
          rotate_left
          · intro w hSw; (try dsimp only at hSw); go_split_ands; go_simp; with_reducible rfl
          change wpAnyH _ _ _ _ _ _ _ (Act.put _ (some 76) _) _
          simp only [Act.put, List.setIfInBounds_toArray, List.set_cons_zero, List.set_cons_succ, Array.toArray_toList]
          refine wpAnyH_take (i := 21) (v := ?_) rfl (by kernel_rfl) (by kernel_rfl) (by kernel_rfl) (fun _ _ _ h => h) (Or.inl ⟨by rfl, ?_⟩) (by assumption) ?_
          rotate_left
          · intro w hSw; (try dsimp only at hSw); go_split_ands; go_simp; with_reducible rfl
          change wpAnyH _ _ _ _ _ _ _ (Act.put _ (some 77) _) _
          simp only [Act.put, List.setIfInBounds_toArray, List.set_cons_zero, List.set_cons_succ, Array.toArray_toList]
          refine wpAnyH_take (i := 22) (v := ?_) rfl (by kernel_rfl) (by kernel_rfl) (by kernel_rfl) (fun _ _ _ h => h) (Or.inl ⟨by rfl, ?_⟩) (by assumption) ?_
          rotate_left
          · intro w hSw; (try dsimp only at hSw); go_split_ands; go_simp; with_reducible rfl
          change wpAnyH _ _ _ _ _ _ _ (Act.put _ (some 78) _) _
          simp only [Act.put, List.setIfInBounds_toArray, List.set_cons_zero, List.set_cons_succ, Array.toArray_toList]
          refine wpAnyH_take (i := 23) (v := ?_) rfl (by kernel_rfl) (by kernel_rfl) (by kernel_rfl) (fun _ _ _ h => h) (Or.inl ⟨by rfl, ?_⟩) (by assumption) ?_
          rotate_left
          · intro w hSw; (try dsimp only at hSw); go_split_ands; go_simp; with_reducible rfl
          change wpAnyH _ _ _ _ _ _ _ (Act.put _ (some 79) _) _
          simp only [Act.put, List.setIfInBounds_toArray, List.set_cons_zero, List.set_cons_succ, Array.toArray_toList]
          refine wpAnyH_ready (rs := [18]) (by kernel_rfl) (by simp) ?_
          refine (AllReadyH.cons rfl (fun K hK => ?_) AllReadyH.nil)
          go_simp
          (with_reducible refine (to27_any _ _ _ _ _).mono ?_); rintro r wq3 ⟨rfl, hb4⟩; have LL := Lib.hid (LL.out.below hb4); clear hb4
          go_wp2_with fail
          refine hK.out _ _ (by first | exact HCE.out _ _ _ LN.out | exact HCE.out _ _ _ LL.out) (fun hHeld => ?_)
          clear hK K
          refine wpAnyH_ready (rs := [19]) (by kernel_rfl) (by simp) ?_
          refine (AllReadyH.cons rfl (fun K hK => ?_) AllReadyH.nil)
          go_simp
          (with_reducible refine (HC2.out _).mono ?_); rintro r wq4 ⟨rfl, hb4⟩; have LL := Lib.hid (LL.out.below hb4); clear hb4
          go_wp2_with fail
          refine hK.out _ _ (by first | exact HCE.out _ _ _ LN.out | exact HCE.out _ _ _ LL.out) (fun hHeld => ?_)
          clear hK K
          refine wpAnyH_ready (rs := [24]) (by kernel_rfl) (by simp) ?_
          refine (AllReadyH.cons rfl (fun K hK => ?_) AllReadyH.nil)
          go_simp
          (with_reducible refine (HC1.out _).mono ?_); rintro r wq5 ⟨rfl, hb4⟩; have LL := Lib.hid (LL.out.below hb4); clear hb4
          go_wp2_with fail
          refine hK.out _ _ (by first | exact HCE.out _ _ _ LN.out | exact HCE.out _ _ _ LL.out) (fun hHeld => ?_)
          clear hK K
          refine wpAnyH_take (i := 25) (v := ?_) rfl (by kernel_rfl) (by kernel_rfl) (by kernel_rfl) (fun _ _ _ h => h) (Or.inl ⟨by rfl, ?_⟩) (by assumption) ?_
          rotate_left
          · intro w hSw; (try dsimp only at hSw); go_split_ands; go_simp; with_reducible rfl
          change wpAnyH _ _ _ _ _ _ _ (Act.put _ (some 81) _) _
          simp only [Act.put, List.setIfInBounds_toArray, List.set_cons_zero, List.set_cons_succ, Array.toArray_toList]
          refine wpAnyH_take (i := 26) (v := ?_) rfl (by kernel_rfl) (by kernel_rfl) (by kernel_rfl) (fun _ _ _ h => h) (Or.inl ⟨by rfl, ?_⟩) (by assumption) ?_
          rotate_left
          · intro w hSw; (try dsimp only at hSw); go_split_ands; go_simp; with_reducible rfl
          change wpAnyH _ _ _ _ _ _ _ (Act.put _ (some 82) _) _
          simp only [Act.put, List.setIfInBounds_toArray, List.set_cons_zero, List.set_cons_succ, Array.toArray_toList]
          refine wpAnyH_done (by kernel_rfl) ?_ _
          clear hHeld K0
          go_wp2_with fail
          go_roundg (N - (k + 1))
          case measure => exact meas hk hlt
          case rel => exact ⟨k + 1, q', _, meas2 hlt, by go_num, by first | rfl | go_num, hq128, by omega, A3, c3, rfl, HFIN.out.1, HFIN.out.2.1, by rw [HFIN.out.2.2]; exact LL.out⟩)
      · obtain rfl : k = N := by omega
        have hx : ¬ ((k : Int) < n) ∨ ((k : Int) < n ∧ ¬ ((k : Int) < 200)) := by have := HN3.out; omega
        have hEc : ∀ x ∈ s.1, x.chk = 0 := by
          rw [← hs]
          exact putsE_chk _ _ (by simp)
        have i8 : (0 : Int) ≤ k := by omega
        have HQ128 := Lib.hid hq
        clear hk hlt hs L HS0
        by_cases hid0 : id0 = 0
        · subst hid0
          obtain ⟨X1, hX1⟩ : ∃ X, rdE m 0 0 ks s.1 = X := ⟨_, rfl⟩
          obtain ⟨X2, hX2⟩ : ∃ X, rdE m tick 0 [] s.1 = X := ⟨_, rfl⟩
          obtain ⟨X3, hX3⟩ : ∃ X, rdE m 0 1 [] s.1 = X := ⟨_, rfl⟩
          obtain ⟨x1, hx1⟩ : ∃ x, X1.length = x := ⟨_, rfl⟩
          obtain ⟨x2, hx2⟩ : ∃ x, X2.length = x := ⟨_, rfl⟩
          obtain ⟨x3, hx3⟩ : ∃ x, X3.length = x := ⟨_, rfl⟩
          have HX1 := Lib.hid (show x1 = X1.length ∧ x1 ≤ 1000 from ⟨hx1.symm, by have := rdE_len m 0 0 ks s.1; rw [hX1] at this; omega⟩)
          have HX2 := Lib.hid (show x2 = X2.length ∧ x2 ≤ 1000 from ⟨hx2.symm, by have := rdE_len m tick 0 [] s.1; rw [hX2] at this; omega⟩)
          have HX3 := Lib.hid (show x3 = X3.length ∧ x3 ≤ 1000 from ⟨hx3.symm, by have := rdE_len m 0 1 [] s.1; rw [hX3] at this; omega⟩)
          have HLN := Lib.hid (show ∀ w' ow, LgAt W [] ow W.heap.size s w' → Calls Try.prog 11 #[.pointer (some ⟨W.heap.size, 0, none⟩)] w' fun r w2 => r = .returned (.int .i64 q) ∧ w2 = w' from fun w' ow h => by have := lenL27 h; rw [h1] at this; exact this)
          have HLO := Lib.hid (show ∀ w' ow, LgAt W [] ow W.heap.size s w' → Calls Try.prog 12 #[.pointer (some ⟨W.heap.size, 0, none⟩)] w' fun r w2 => r = .returned (.int .i64 lo) ∧ w2 = w' from fun w' ow h => by have := lostL27 h; rw [h2] at this; exact this)
          have HR1 := Lib.hid (show ∀ w' ow, LgAt W [] ow W.heap.size s w' → Calls Try.prog 9 #[.pointer (some ⟨W.heap.size, 0, none⟩), .int .i64 m, .slice A2 v c2] w' fun r w2 => ∃ A' c', r = .returned (.slice A' x1 c') ∧ LgAt W [] (evRow A' x1 c' X1 :: ow) W.heap.size s w2 from fun w' ow h => by
            have hq := readkL h (by omega) hEc m HM.out A2 c2 ks HKR.out (by rw [HKL.out]; omega)
            rw [HKL.out] at hq
            refine hq.mono ?_
            rintro r w2 ⟨A', n', c', rfl, hn', hl⟩
            rw [hX1] at hn' hl
            rw [hx1] at hn'
            subst hn'
            exact ⟨A', c', rfl, hl⟩)
          have HR2 := Lib.hid (show ∀ w' ow, LgAt W [] ow W.heap.size s w' → Calls Try.prog 17 #[.pointer (some ⟨W.heap.size, 0, none⟩), .int .i64 tick, .int .i64 m] w' fun r w2 => ∃ A' c', r = .returned (.slice A' x2 c') ∧ LgAt W [] (evRow A' x2 c' X2 :: ow) W.heap.size s w2 from fun w' ow h => by
            have hq := sinceL h (by omega) hEc m HM.out tick
            refine hq.mono ?_
            rintro r w2 ⟨A', n', c', rfl, hn', hl⟩
            rw [hX2] at hn' hl
            rw [hx2] at hn'
            subst hn'
            exact ⟨A', c', rfl, hl⟩)
          have HR3 := Lib.hid (show ∀ w' ow, LgAt W [] ow W.heap.size s w' → Calls Try.prog 18 #[.pointer (some ⟨W.heap.size, 0, none⟩), .int .i64 1, .int .i64 m] w' fun r w2 => ∃ A' c', r = .returned (.slice A' x3 c') ∧ LgAt W [] (evRow A' x3 c' X3 :: ow) W.heap.size s w2 from fun w' ow h => by
            have hq := ofL h (by omega) hEc m HM.out 1 (by decide)
            refine hq.mono ?_
            rintro r w2 ⟨A', n', c', rfl, hn', hl⟩
            rw [hX3] at hn' hl
            rw [hx3] at hn'
            subst hn'
            exact ⟨A', c', rfl, hl⟩)
          have HQ1 := Lib.hid (show ∀ w' ow, LgAt W [] ow W.heap.size s w' → (hy : rfRow A q c s.1 ∈ ow) → Calls Try.prog 16 #[.slice A q c, .int .i64 m, .int .i64 0, .int .i64 0, .slice A2 v c2] w' fun r w2 => ∃ A' c', r = .returned (.slice A' x1 c') ∧ LgAt W [] (rfRow A' x1 c' X1 :: ow) W.heap.size s w2 from fun w' ow h hy => by
            have hq := refreadL h (by omega) hEc m HM.out 0 0 A c (by rw [h1]; exact hy) A2 c2 ks HKR.out (by rw [HKL.out]; omega)
            rw [h1, HKL.out] at hq
            refine hq.mono ?_
            rintro r w2 ⟨A', n', c', rfl, hn', hl⟩
            rw [hX1] at hn' hl
            rw [hx1] at hn'
            subst hn'
            exact ⟨A', c', rfl, hl⟩)
          have HQ2 := Lib.hid (show ∀ w' ow, LgAt W [] ow W.heap.size s w' → (hy : rfRow A q c s.1 ∈ ow) → Calls Try.prog 16 #[.slice A q c, .int .i64 m, .int .i64 tick, .int .i64 0, .slice none 0 0] w' fun r w2 => ∃ A' c', r = .returned (.slice A' x2 c') ∧ LgAt W [] (rfRow A' x2 c' X2 :: ow) W.heap.size s w2 from fun w' ow h hy => by
            have hq := refreadL h (by omega) hEc m HM.out tick 0 A c (by rw [h1]; exact hy) none 0 [] (Rd.nil_ _ _ _ _) (by decide)
            rw [h1] at hq
            refine hq.mono ?_
            rintro r w2 ⟨A', n', c', rfl, hn', hl⟩
            rw [hX2] at hn' hl
            rw [hx2] at hn'
            subst hn'
            exact ⟨A', c', rfl, hl⟩)
          have HQ3 := Lib.hid (show ∀ w' ow, LgAt W [] ow W.heap.size s w' → (hy : rfRow A q c s.1 ∈ ow) → Calls Try.prog 16 #[.slice A q c, .int .i64 m, .int .i64 0, .int .i64 1, .slice none 0 0] w' fun r w2 => ∃ A' c', r = .returned (.slice A' x3 c') ∧ LgAt W [] (rfRow A' x3 c' X3 :: ow) W.heap.size s w2 from fun w' ow h hy => by
            have hq := refreadL h (by omega) hEc m HM.out 0 1 A c (by rw [h1]; exact hy) none 0 [] (Rd.nil_ _ _ _ _) (by decide)
            rw [h1] at hq
            refine hq.mono ?_
            rintro r w2 ⟨A', n', c', rfl, hn', hl⟩
            rw [hX3] at hn' hl
            rw [hx3] at hn'
            subst hn'
            exact ⟨A', c', rfl, hl⟩)
          have HSA := Lib.hid (show ∀ w' ow A A2 n c c2 X, LgAt W [] ow W.heap.size s w' → evRow A n c X ∈ ow → rfRow A2 n c2 X ∈ ow → n = X.length → n ≤ 1000 → Calls Try.prog 15 #[.slice A n c, .slice A2 n c2] w' fun r w2 => r = .returned (.bool true) ∧ LgAt W [] ow W.heap.size s w2 from fun w' ow A A2 n c c2 X h h1 h2 h3 h4 => sameL h A A2 n c c2 X h1 h2 h3 h4)
          have HMEM1 := Lib.hid (show ∀ A6 c6, rfRow A q c s.1 ∈ [evRow A6 x1 c6 X1, rfRow A q c s.1] from fun _ _ => by simp)
          have HMEM2 := Lib.hid (show ∀ A9 c9 A6 c6, ∀ y, rfRow A q c s.1 ∈ [evRow A9 x2 c9 X2, y, evRow A6 x1 c6 X1, rfRow A q c s.1] from fun _ _ _ _ y => by simp)
          have HMEM3 := Lib.hid (show ∀ A9 c9 A6 c6, ∀ y z v, rfRow A q c s.1 ∈ [evRow A9 x3 c9 X3, y, z, v, evRow A6 x1 c6 X1, rfRow A q c s.1] from fun _ _ _ _ y z v => by simp)
          clear hX1 hX2 hX3 hx1 hx2 hx3 hEc h1 h2
          rcases hx with hx | ⟨hx, hx'⟩
          all_goals (
            go_wp2_with fail
            with_reducible refine (known27 _).mono ?_
            rintro r w3 ⟨rfl, hb⟩
            have LL := Lib.hid (LL.out.below hb)
            clear hb
            go_wp2_with fail
            with_reducible refine (HLN.out _ _ LL.out).mono ?_
            rintro r w4 ⟨rfl, rfl⟩
            go_wp2_with fail
            with_reducible refine (HLO.out _ _ LL.out).mono ?_
            rintro r w5 ⟨rfl, rfl⟩
            go_wp2_with fail
            with_reducible refine (HR1.out _ _ LL.out).mono ?_
            rintro r w6 ⟨A6, c6, rfl, hl⟩
            have LL := Lib.hid hl
            clear hl
            go_wp2_with fail
            with_reducible refine (HQ1.out _ _ LL.out (HMEM1.out _ _)).mono ?_
            rintro r w7 ⟨A7, c7, rfl, hl⟩
            have LL := Lib.hid hl
            clear hl
            have HS := Lib.hid (HSA.out _ _ _ _ _ _ _ _ LL.out (List.mem_cons_of_mem _ (List.mem_cons_self ..)) (List.mem_cons_self ..) HX1.out.1 HX1.out.2)
            go_wp2_with fail
            with_reducible refine HS.out.mono ?_
            rintro r w8 ⟨rfl, hl⟩
            have LL := Lib.hid hl
            clear hl HS
            go_wp2_with fail
            with_reducible refine (HR2.out _ _ LL.out).mono ?_
            rintro r w9 ⟨A9, c9, rfl, hl⟩
            have LL := Lib.hid hl
            clear hl
            go_wp2_with fail
            with_reducible refine (HQ2.out _ _ LL.out (HMEM2.out _ _ _ _ _)).mono ?_
            rintro r w10 ⟨A10, c10, rfl, hl⟩
            have LL := Lib.hid hl
            clear hl
            have HS := Lib.hid (HSA.out _ _ _ _ _ _ _ _ LL.out (List.mem_cons_of_mem _ (List.mem_cons_self ..)) (List.mem_cons_self ..) HX2.out.1 HX2.out.2)
            go_wp2_with fail
            with_reducible refine HS.out.mono ?_
            rintro r w11 ⟨rfl, hl⟩
            have LL := Lib.hid hl
            clear hl HS
            go_wp2_with fail
            with_reducible refine (HR3.out _ _ LL.out).mono ?_
            rintro r w12 ⟨A12, c12, rfl, hl⟩
            have LL := Lib.hid hl
            clear hl
            go_wp2_with fail
            with_reducible refine (HQ3.out _ _ LL.out (HMEM3.out _ _ _ _ _ _ _)).mono ?_
            rintro r w13 ⟨A13, c13, rfl, hl⟩
            have LL := Lib.hid hl
            clear hl
            have HS := Lib.hid (HSA.out _ _ _ _ _ _ _ _ LL.out (List.mem_cons_of_mem _ (List.mem_cons_self ..)) (List.mem_cons_self ..) HX3.out.1 HX3.out.2)
            go_wp2_with fail
            with_reducible refine HS.out.mono ?_
            rintro r w14 ⟨rfl, hl⟩
            have LL := Lib.hid hl
            clear hl HS
            go_wp2
            go_ret
            exact ⟨rfl, LL.out.bel⟩)
        · have f1 : (id0 == 0) = false := by simpa using hid0
          obtain ⟨X1, hX1⟩ : ∃ X, rdE m 0 0 ks s.1 = X := ⟨_, rfl⟩
          obtain ⟨X2, hX2⟩ : ∃ X, rdE m tick 0 [] s.1 = X := ⟨_, rfl⟩
          obtain ⟨X3, hX3⟩ : ∃ X, rdE m 0 id0 [] s.1 = X := ⟨_, rfl⟩
          obtain ⟨x1, hx1⟩ : ∃ x, X1.length = x := ⟨_, rfl⟩
          obtain ⟨x2, hx2⟩ : ∃ x, X2.length = x := ⟨_, rfl⟩
          obtain ⟨x3, hx3⟩ : ∃ x, X3.length = x := ⟨_, rfl⟩
          have HX1 := Lib.hid (show x1 = X1.length ∧ x1 ≤ 1000 from ⟨hx1.symm, by have := rdE_len m 0 0 ks s.1; rw [hX1] at this; omega⟩)
          have HX2 := Lib.hid (show x2 = X2.length ∧ x2 ≤ 1000 from ⟨hx2.symm, by have := rdE_len m tick 0 [] s.1; rw [hX2] at this; omega⟩)
          have HX3 := Lib.hid (show x3 = X3.length ∧ x3 ≤ 1000 from ⟨hx3.symm, by have := rdE_len m 0 id0 [] s.1; rw [hX3] at this; omega⟩)
          have HLN := Lib.hid (show ∀ w' ow, LgAt W [] ow W.heap.size s w' → Calls Try.prog 11 #[.pointer (some ⟨W.heap.size, 0, none⟩)] w' fun r w2 => r = .returned (.int .i64 q) ∧ w2 = w' from fun w' ow h => by have := lenL27 h; rw [h1] at this; exact this)
          have HLO := Lib.hid (show ∀ w' ow, LgAt W [] ow W.heap.size s w' → Calls Try.prog 12 #[.pointer (some ⟨W.heap.size, 0, none⟩)] w' fun r w2 => r = .returned (.int .i64 lo) ∧ w2 = w' from fun w' ow h => by have := lostL27 h; rw [h2] at this; exact this)
          have HR1 := Lib.hid (show ∀ w' ow, LgAt W [] ow W.heap.size s w' → Calls Try.prog 9 #[.pointer (some ⟨W.heap.size, 0, none⟩), .int .i64 m, .slice A2 v c2] w' fun r w2 => ∃ A' c', r = .returned (.slice A' x1 c') ∧ LgAt W [] (evRow A' x1 c' X1 :: ow) W.heap.size s w2 from fun w' ow h => by
            have hq := readkL h (by omega) hEc m HM.out A2 c2 ks HKR.out (by rw [HKL.out]; omega)
            rw [HKL.out] at hq
            refine hq.mono ?_
            rintro r w2 ⟨A', n', c', rfl, hn', hl⟩
            rw [hX1] at hn' hl
            rw [hx1] at hn'
            subst hn'
            exact ⟨A', c', rfl, hl⟩)
          have HR2 := Lib.hid (show ∀ w' ow, LgAt W [] ow W.heap.size s w' → Calls Try.prog 17 #[.pointer (some ⟨W.heap.size, 0, none⟩), .int .i64 tick, .int .i64 m] w' fun r w2 => ∃ A' c', r = .returned (.slice A' x2 c') ∧ LgAt W [] (evRow A' x2 c' X2 :: ow) W.heap.size s w2 from fun w' ow h => by
            have hq := sinceL h (by omega) hEc m HM.out tick
            refine hq.mono ?_
            rintro r w2 ⟨A', n', c', rfl, hn', hl⟩
            rw [hX2] at hn' hl
            rw [hx2] at hn'
            subst hn'
            exact ⟨A', c', rfl, hl⟩)
          have HR3 := Lib.hid (show ∀ w' ow, LgAt W [] ow W.heap.size s w' → Calls Try.prog 18 #[.pointer (some ⟨W.heap.size, 0, none⟩), .int .i64 id0, .int .i64 m] w' fun r w2 => ∃ A' c', r = .returned (.slice A' x3 c') ∧ LgAt W [] (evRow A' x3 c' X3 :: ow) W.heap.size s w2 from fun w' ow h => by
            have hq := ofL h (by omega) hEc m HM.out id0 hid0
            refine hq.mono ?_
            rintro r w2 ⟨A', n', c', rfl, hn', hl⟩
            rw [hX3] at hn' hl
            rw [hx3] at hn'
            subst hn'
            exact ⟨A', c', rfl, hl⟩)
          have HQ1 := Lib.hid (show ∀ w' ow, LgAt W [] ow W.heap.size s w' → (hy : rfRow A q c s.1 ∈ ow) → Calls Try.prog 16 #[.slice A q c, .int .i64 m, .int .i64 0, .int .i64 0, .slice A2 v c2] w' fun r w2 => ∃ A' c', r = .returned (.slice A' x1 c') ∧ LgAt W [] (rfRow A' x1 c' X1 :: ow) W.heap.size s w2 from fun w' ow h hy => by
            have hq := refreadL h (by omega) hEc m HM.out 0 0 A c (by rw [h1]; exact hy) A2 c2 ks HKR.out (by rw [HKL.out]; omega)
            rw [h1, HKL.out] at hq
            refine hq.mono ?_
            rintro r w2 ⟨A', n', c', rfl, hn', hl⟩
            rw [hX1] at hn' hl
            rw [hx1] at hn'
            subst hn'
            exact ⟨A', c', rfl, hl⟩)
          have HQ2 := Lib.hid (show ∀ w' ow, LgAt W [] ow W.heap.size s w' → (hy : rfRow A q c s.1 ∈ ow) → Calls Try.prog 16 #[.slice A q c, .int .i64 m, .int .i64 tick, .int .i64 0, .slice none 0 0] w' fun r w2 => ∃ A' c', r = .returned (.slice A' x2 c') ∧ LgAt W [] (rfRow A' x2 c' X2 :: ow) W.heap.size s w2 from fun w' ow h hy => by
            have hq := refreadL h (by omega) hEc m HM.out tick 0 A c (by rw [h1]; exact hy) none 0 [] (Rd.nil_ _ _ _ _) (by decide)
            rw [h1] at hq
            refine hq.mono ?_
            rintro r w2 ⟨A', n', c', rfl, hn', hl⟩
            rw [hX2] at hn' hl
            rw [hx2] at hn'
            subst hn'
            exact ⟨A', c', rfl, hl⟩)
          have HQ3 := Lib.hid (show ∀ w' ow, LgAt W [] ow W.heap.size s w' → (hy : rfRow A q c s.1 ∈ ow) → Calls Try.prog 16 #[.slice A q c, .int .i64 m, .int .i64 0, .int .i64 id0, .slice none 0 0] w' fun r w2 => ∃ A' c', r = .returned (.slice A' x3 c') ∧ LgAt W [] (rfRow A' x3 c' X3 :: ow) W.heap.size s w2 from fun w' ow h hy => by
            have hq := refreadL h (by omega) hEc m HM.out 0 id0 A c (by rw [h1]; exact hy) none 0 [] (Rd.nil_ _ _ _ _) (by decide)
            rw [h1] at hq
            refine hq.mono ?_
            rintro r w2 ⟨A', n', c', rfl, hn', hl⟩
            rw [hX3] at hn' hl
            rw [hx3] at hn'
            subst hn'
            exact ⟨A', c', rfl, hl⟩)
          have HSA := Lib.hid (show ∀ w' ow A A2 n c c2 X, LgAt W [] ow W.heap.size s w' → evRow A n c X ∈ ow → rfRow A2 n c2 X ∈ ow → n = X.length → n ≤ 1000 → Calls Try.prog 15 #[.slice A n c, .slice A2 n c2] w' fun r w2 => r = .returned (.bool true) ∧ LgAt W [] ow W.heap.size s w2 from fun w' ow A A2 n c c2 X h h1 h2 h3 h4 => sameL h A A2 n c c2 X h1 h2 h3 h4)
          have HMEM1 := Lib.hid (show ∀ A6 c6, rfRow A q c s.1 ∈ [evRow A6 x1 c6 X1, rfRow A q c s.1] from fun _ _ => by simp)
          have HMEM2 := Lib.hid (show ∀ A9 c9 A6 c6, ∀ y, rfRow A q c s.1 ∈ [evRow A9 x2 c9 X2, y, evRow A6 x1 c6 X1, rfRow A q c s.1] from fun _ _ _ _ y => by simp)
          have HMEM3 := Lib.hid (show ∀ A9 c9 A6 c6, ∀ y z v, rfRow A q c s.1 ∈ [evRow A9 x3 c9 X3, y, z, v, evRow A6 x1 c6 X1, rfRow A q c s.1] from fun _ _ _ _ y z v => by simp)
          clear hX1 hX2 hX3 hx1 hx2 hx3 hEc h1 h2
          clear hid0
          rcases hx with hx | ⟨hx, hx'⟩
          all_goals (
            go_wp2_with fail
            with_reducible refine (known27 _).mono ?_
            rintro r w3 ⟨rfl, hb⟩
            have LL := Lib.hid (LL.out.below hb)
            clear hb
            go_wp2_with fail
            with_reducible refine (HLN.out _ _ LL.out).mono ?_
            rintro r w4 ⟨rfl, rfl⟩
            go_wp2_with fail
            with_reducible refine (HLO.out _ _ LL.out).mono ?_
            rintro r w5 ⟨rfl, rfl⟩
            go_wp2_with fail
            with_reducible refine (HR1.out _ _ LL.out).mono ?_
            rintro r w6 ⟨A6, c6, rfl, hl⟩
            have LL := Lib.hid hl
            clear hl
            go_wp2_with fail
            with_reducible refine (HQ1.out _ _ LL.out (HMEM1.out _ _)).mono ?_
            rintro r w7 ⟨A7, c7, rfl, hl⟩
            have LL := Lib.hid hl
            clear hl
            have HS := Lib.hid (HSA.out _ _ _ _ _ _ _ _ LL.out (List.mem_cons_of_mem _ (List.mem_cons_self ..)) (List.mem_cons_self ..) HX1.out.1 HX1.out.2)
            go_wp2_with fail
            with_reducible refine HS.out.mono ?_
            rintro r w8 ⟨rfl, hl⟩
            have LL := Lib.hid hl
            clear hl HS
            go_wp2_with fail
            with_reducible refine (HR2.out _ _ LL.out).mono ?_
            rintro r w9 ⟨A9, c9, rfl, hl⟩
            have LL := Lib.hid hl
            clear hl
            go_wp2_with fail
            with_reducible refine (HQ2.out _ _ LL.out (HMEM2.out _ _ _ _ _)).mono ?_
            rintro r w10 ⟨A10, c10, rfl, hl⟩
            have LL := Lib.hid hl
            clear hl
            have HS := Lib.hid (HSA.out _ _ _ _ _ _ _ _ LL.out (List.mem_cons_of_mem _ (List.mem_cons_self ..)) (List.mem_cons_self ..) HX2.out.1 HX2.out.2)
            go_wp2_with fail
            with_reducible refine HS.out.mono ?_
            rintro r w11 ⟨rfl, hl⟩
            have LL := Lib.hid hl
            clear hl HS
            go_wp2_with fail
            with_reducible refine (HR3.out _ _ LL.out).mono ?_
            rintro r w12 ⟨A12, c12, rfl, hl⟩
            have LL := Lib.hid hl
            clear hl
            go_wp2_with fail
            with_reducible refine (HQ3.out _ _ LL.out (HMEM3.out _ _ _ _ _ _ _)).mono ?_
            rintro r w13 ⟨A13, c13, rfl, hl⟩
            have LL := Lib.hid hl
            clear hl
            have HS := Lib.hid (HSA.out _ _ _ _ _ _ _ _ LL.out (List.mem_cons_of_mem _ (List.mem_cons_self ..)) (List.mem_cons_self ..) HX3.out.1 HX3.out.2)
            go_wp2_with fail
            with_reducible refine HS.out.mono ?_
            rintro r w14 ⟨rfl, hl⟩
            have LL := Lib.hid hl
            clear hl HS
            go_wp2
            go_ret
            exact ⟨rfl, LL.out.bel⟩)
theorem contract_eventsPlays (W : World) (v0 v1 v2 v3 v4 : Value) (a0 : ∃ A n c zs, v0 = .slice A n c ∧ n ≤ c ∧ c ≤ maxLen ∧ Flat 4 W A n zs) (a1 : ∃ z, v1 = .int .i64 z ∧ in64 z) (a2 : ∃ z, v2 = .int .i64 z ∧ in64 z) (a3 : ∃ z, v3 = .int .i64 z ∧ in64 z) (a4 : ∃ r : Rw, v4 = r.v ∧ r.ok .i64 W) :
    Calls Try.prog 5 #[v0, v1, v2, v3, v4] W fun e W' => e = .returned (.bool true) ∧ Below W.heap.size W W' := by
  obtain ⟨A, n, c, zs, rfl, h1, h2, h3⟩ := a0
  obtain ⟨x, rfl, -⟩ := a1
  obtain ⟨y, rfl, -⟩ := a2
  obtain ⟨z, rfl, -⟩ := a3
  obtain ⟨r, rfl, hr⟩ := a4
  obtain ⟨es, rfl, hre, -⟩ := h3.evs
  have h4 := hr.le
  have h5 := hr.cap
  unfold maxLen at h2 h5
  exact eventsPlays_main W A c es hre (by omega) x y z r.A r.c r.zs hr.rd h4 h5
end Go.Proofs.Ytnopmdhjamkoaaa
