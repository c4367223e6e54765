/-
  vigillaw27.EventsHides returns true, whatever it is called with. Conditions: none but that the slices can be read.
-/
import Derived.Test.YtnopmdhjamkoaaaEv13
import Derived.Test.YtnopmdhjamkoaaaMod
namespace Go.Proofs.Ytnopmdhjamkoaaa
set_option linter.unusedVariables false
set_option linter.unusedSimpArgs false
open Go.RowKit

abbrev logB (g : Nat) (v : Value) (s : List Ev × Nat) : Nat × TypeId × Array Value := (g, 26, #[v, .int .i64 s.2])
abbrev logR (v : Value) (s : List Ev × Nat) : Ro := ⟨29, 4, v, s.1.length, evs s.1⟩
/-- Two logs. -/
def Lg2 (W : World) (bl : Bl) (ow : List Ro) (ga : Nat) (sa : List Ev × Nat) (gb : Nat) (sb : List Ev × Nat) (w : World) : Prop := ∃ va vb, Mst W w (logB ga va sa :: logB gb vb sb :: bl) (logR va sa :: logR vb sb :: ow)
theorem Lg2.swap {W w : World} {bl : Bl} {ow : List Ro} {ga gb : Nat} {sa sb : List Ev × Nat} (h : Lg2 W bl ow ga sa gb sb w) : Lg2 W bl ow gb sb ga sa w := by
  obtain ⟨va, vb, h⟩ := h
  exact ⟨vb, va, h.perm (List.Perm.swap _ _ _) (List.Perm.swap _ _ _)⟩
theorem Lg2.below {W w w' : World} {bl : Bl} {ow : List Ro} {ga gb : Nat} {sa sb : List Ev × Nat} (h : Lg2 W bl ow ga sa gb sb w) (hb : Below w.heap.size w w') : Lg2 W bl ow ga sa gb sb w' := by
  obtain ⟨va, vb, h⟩ := h
  exact ⟨va, vb, h.below hb⟩
theorem Lg2.bel {W w : World} {bl : Bl} {ow : List Ro} {ga gb : Nat} {sa sb : List Ev × Nat} (h : Lg2 W bl ow ga sa gb sb w) : Below W.heap.size W w := by
  obtain ⟨va, vb, h⟩ := h
  exact h.bel
theorem Lg2.evAt {W w : World} {bl : Bl} {ow : List Ro} {ga gb : Nat} {sa sb : List Ev × Nat} (h : Lg2 W bl ow ga sa gb sb w) {b o k : Nat} {e : Ev} (hb : b < W.heap.size) (p : EvAt W b o k e) : EvAt w b o k e := by
  obtain ⟨va, vb, h⟩ := h
  exact h.evAt hb p
theorem Lg2.rowAt {W w : World} {bl : Bl} {ow : List Ro} {ga gb : Nat} {sa sb : List Ev × Nat} (h : Lg2 W bl ow ga sa gb sb w) {A : Option Addr} {n c : Nat} {X : List Ev} (hy : evRow A n c X ∈ ow) (hn : X.length = n) {k : Nat} {e : Ev} (hk : X[k]? = some e) : ∃ b o, A = some ⟨b, o, none⟩ ∧ EvAt w b o k e := by
  obtain ⟨va, vb, h⟩ := h
  exact h.rowAt (List.mem_cons_of_mem _ (List.mem_cons_of_mem _ hy)) hn hk
theorem Lg2.zero {W w w1 w2 : World} (h : Mst W w [] []) (h1 : w.alloc (.cells #[.slice none 0 0, .int .i64 0] 26) = w1) (h2 : w1.alloc (.cells #[.slice none 0 0, .int .i64 0] 26) = w2) : Lg2 W [] [] w.heap.size ([], 0) (w.heap.size + 1) ([], 0) w2 := by
  have e : w1.heap.size = w.heap.size + 1 := by rw [← h1]; simp
  rw [← e]
  subst h1 h2
  exact ⟨.slice none 0 0, .slice none 0 0, ((((h.new 26 #[.slice none 0 0, .int .i64 0]).new 26 #[.slice none 0 0, .int .i64 0]).nilrow 29 4).nilrow 29 4).perm (List.Perm.swap _ _ _) (List.Perm.refl _)⟩
theorem Lg2.put {W w w1 : World} {bl : Bl} {ow : List Ro} {ga gb : Nat} {sa sb : List Ev × Nat} (h : Lg2 W bl ow ga sa gb sb w) (e : Ev) (h128 : sa.1.length ≤ 128) (hlost : sa.2 + 1 ≤ 1000000)
    (hw : w.alloc (.cells #[.int .i64 e.t, .int .i64 e.k, .int .i64 e.i, .int .i64 e.r] 29) = w1) :
    Calls Try.prog 6 #[.pointer (some ⟨ga, 0, none⟩), .slice (some ⟨w.heap.size, 0, none⟩) 1 1] w1 fun r w' => (∃ z, r = .returned (.int .i64 z)) ∧ Lg2 W bl ow ga (putE sa e) gb sb w' := by
  obtain ⟨va, vb, h⟩ := h
  refine (evput1 (bl := logB gb vb sb :: bl) (ow := logR vb sb :: ow) ⟨va, h⟩ e h128 hlost hw).mono ?_
  rintro r w' ⟨rfl, v, hl⟩
  exact ⟨⟨_, rfl⟩, v, vb, hl⟩
theorem Lg2.read {W w : World} {bl : Bl} {ow : List Ro} {ga gb : Nat} {sa sb : List Ev × Nat} (h : Lg2 W bl ow ga sa gb sb w) (hn : sa.1.length ≤ 1000000) (hE : ∀ e ∈ sa.1, 0 ≤ e.r ∧ e.r < 8) (m : Nat) (hm : m < 256) :
    Calls Try.prog 9 #[.pointer (some ⟨ga, 0, none⟩), .int .i64 m, .slice none 0 0] w fun r w' => ∃ A' n' c', r = .returned (.slice A' n' c') ∧ n' = (keepE (sD m fun _ => true) sa.1).length ∧ Lg2 W bl (evRow A' n' c' (keepE (sD m fun _ => true) sa.1) :: ow) ga sa gb sb w' := by
  obtain ⟨va, vb, h⟩ := h
  refine (readL (bl := logB gb vb sb :: bl) (ow := logR vb sb :: ow) ⟨va, h⟩ hn hE m hm).mono ?_
  rintro r w' ⟨A, n, c, rfl, hn', v, hl⟩
  exact ⟨A, n, c, rfl, hn', v, vb, hl.perm (List.Perm.refl _) ((List.Perm.swap _ _ _).cons _)⟩

theorem evC_role {t k i r : Int} (h : evC t k i r = 0) : 0 ≤ r ∧ r < 8 := by
  rcases evC_split t k i r 0 h with ⟨_, h⟩ | ⟨_, _, h⟩ | ⟨_, _, (⟨_, h⟩ | ⟨_, _, h⟩ | ⟨_, _, _, h⟩ | ⟨_, _, _, _, h⟩ | ⟨_, _, _, _, (⟨_, h⟩ | ⟨_, _, h⟩ | ⟨h1, h2, _⟩)⟩)⟩
  all_goals first | cases h | exact ⟨h1, h2⟩
/-- What the two logs have in common behind k rounds. -/
structure Hd (m k : Nat) (sa sb : List Ev) : Prop where
  la : sa.length ≤ k
  lb : sb.length ≤ 2 * k
  ca : ∀ e ∈ sa, e.chk = 0
  cb : ∀ e ∈ sb, e.chk = 0
  eq : keepE (sD m fun _ => true) sa = keepE (sD m fun _ => true) sb
theorem putE_no {s : List Ev} {e : Ev} (h : e.chk ≠ 0) : putE (s, 0) e = (s, 0) := by unfold putE; rw [if_pos h]
theorem putE_yes {s : List Ev} {e : Ev} (h : e.chk = 0) (hs : s.length < 128) : putE (s, 0) e = (s ++ [e], 0) := by
  unfold putE
  rw [if_neg (by simpa using h), if_neg (by simp only; omega)]
theorem Hd.both {m k : Nat} {sa sb : List Ev} (h : Hd m k sa sb) (hk : k < 60) (e : Ev) : ∃ sa' sb', putE (sa, 0) e = (sa', 0) ∧ putE (sb, 0) e = (sb', 0) ∧ Hd m (k + 1) sa' sb' ∧ sb'.length ≤ 2 * k + 1 := by
  have h1 := h.la
  have h2 := h.lb
  by_cases hc : e.chk = 0
  · refine ⟨_, _, putE_yes hc (by omega), putE_yes hc (by omega), ⟨by simp; omega, by simp; omega, ?_, ?_, ?_⟩, by simp; omega⟩
    · intro x hx
      rcases List.mem_append.1 hx with hx | hx
      · exact h.ca x hx
      · obtain rfl : x = e := by simpa using hx
        exact hc
    · intro x hx
      rcases List.mem_append.1 hx with hx | hx
      · exact h.cb x hx
      · obtain rfl : x = e := by simpa using hx
        exact hc
    · rw [keepE_snoc, keepE_snoc, h.eq]
  · exact ⟨_, _, putE_no hc, putE_no hc, ⟨by omega, by omega, h.ca, h.cb, h.eq⟩, by omega⟩
theorem Hd.hid {m k : Nat} {sa sb : List Ev} (h : Hd m (k + 1) sa sb) (hl : sb.length ≤ 2 * k + 1) (hk : k < 60) (e : Ev) (hc : e.chk = 0) (h4 : e.k = 4) (R : Nat) (hr : e.r = R) (hm : m.testBit R = false) : putE (sb, 0) e = (sb ++ [e], 0) ∧ Hd m (k + 1) sa (sb ++ [e]) := by
  refine ⟨putE_yes hc (by omega), h.la, by simp; omega, h.ca, ?_, ?_⟩
  · intro x hx
    rcases List.mem_append.1 hx with hx | hx
    · exact h.cb x hx
    · obtain rfl : x = e := by simpa using hx
      exact hc
  · rw [keepE_snoc, if_pos (by simp [sD, h4, hr, hm])]
    exact h.eq
def HdR (W : World) (m ga gb k : Nat) (w : World) : Prop := ∃ sa sb, Hd m k sa sb ∧ Lg2 W [] [] ga (sa, 0) gb (sb, 0) w
theorem ne4e (w : World) (a b c d : Int) : (binOp .neq 29 (.agg #[.int .i64 a, .int .i64 b, .int .i64 c, .int .i64 d]) (.agg #[.int .i64 a, .int .i64 b, .int .i64 c, .int .i64 d])).run Try.prog w = .ok (.bool false) w := by go_simp

set_option maxRecDepth 100000 in
set_option maxHeartbeats 8000000 in
theorem eventsHides_main (W : World) (A1 A2 : Option Addr) (c1 c2 : Nat) (l hd : List Ev) (hl : Rd W W.heap.size 4 A1 l.length (evs l)) (hh : Rd W W.heap.size 4 A2 hd.length (evs hd)) (hln : l.length ≤ 9223372036854775807) (hhn : hd.length ≤ 9223372036854775807) (m0 : Int) :
    Calls Try.prog 3 #[.slice A1 l.length c1, .slice A2 hd.length c2, .int .i64 m0] W fun e W' => e = .returned (.bool true) ∧ Below W.heap.size W W' := by
  obtain ⟨T, hT, hT1, hT9⟩ := mod_any m0 256 (by omega) (by omega)
  obtain ⟨m, rfl⟩ : ∃ m : Nat, T = (m : Int) := ⟨T.toNat, by omega⟩
  have HTT := Lib.hid hT
  have hm : m < 256 := by omega
  have HM := Lib.hid hm
  obtain ⟨n, hn⟩ : ∃ n, l.length = n := ⟨_, rfl⟩
  obtain ⟨q, hq⟩ : ∃ n, hd.length = n := ⟨_, rfl⟩
  have HL := Lib.hid hl
  have HH := Lib.hid hh
  have HN := Lib.hid hn
  have HQ := Lib.hid hq
  rw [hn] at hln ⊢
  rw [hq] at hhn ⊢
  clear hT hl hh hn hq hT1 hT9 hm
  obtain ⟨N, hN1, hN2, hN3⟩ : ∃ N : Nat, N ≤ n ∧ N ≤ 60 ∧ (N = n ∨ N = 60) := ⟨min n 60, by omega, by omega, by omega⟩
  have HN3 := Lib.hid hN3
  clear hN3
  go_enter Try.func3, Try.ntmps3
  go_upto_region 3 with fail
  rw [HTT.out]
  generalize hw2 : World.alloc _ _ = w2
  have L0 := Lib.hid (Lg2.zero (Mst.start W) rfl hw2)
  clear hw2
  go_wp2_with fail
  go_loopg [9] N (fun gg s9 wr => ∃ k : Nat, k + gg = N ∧ s9 = .int .i64 k ∧ HdR W m W.heap.size (W.heap.size + 1) k wr)
  case atStart => exact ⟨0, by omega, rfl, [], [], ⟨by simp, by simp, by simp, by simp, rfl⟩, L0.out⟩
  case round =>
    obtain ⟨k, hk, rfl, sa, sb, hd0, L⟩ := hrel
    have LL := Lib.hid L
    clear L0 L
    by_cases hlt : k < N
    · obtain ⟨⟨et, ek, ei, er⟩, he⟩ : ∃ e, l[k]? = some e := ⟨_, List.getElem?_eq_getElem (by rw [HN.out]; omega)⟩
      obtain ⟨b, o, rfl, hb, pe⟩ := HL.out.evAt he
      have HE := Lib.hid pe
      obtain ⟨p0, p1, p2, p3⟩ := LL.out.evAt hb pe
      obtain ⟨sa', sb', hpa, hpb, hd1, hlb⟩ := hd0.both (by omega) ⟨et, ek, ei, er⟩
      have HPA := Lib.hid hpa
      have HPB := Lib.hid hpb
      have HD1 := Lib.hid hd1
      have HLB := Lib.hid hlb
      have HA128 := Lib.hid (show (sa, 0).1.length ≤ 128 by have := hd0.la; simp only; omega)
      have HB128 := Lib.hid (show (sb, 0).1.length ≤ 128 by have := hd0.lb; simp only; omega)
      have HB128' := Lib.hid (show (sb', 0).1.length ≤ 128 by simp only; omega)
      have i1 : (k : Int) < n := by omega
      have i2 : (k : Int) < 60 := by omega
      have i3 : (0 : Int) ≤ k := by omega
      clear he pe hpa hpb hd1 hlb hd0
      simp only at p0 p1 p2 p3
      go_wp2_with fail
      refine (to27_any _ _ _ _ _).mono ?_
      rintro r w3 ⟨rfl, hb3⟩
      have LL := Lib.hid (LL.out.below hb3)
      clear hb3 p0 p1 p2 p3
      go_wp2_with fail
      refine (LL.out.put ⟨et, ek, ei, er⟩ HA128.out (show 0 + 1 ≤ 1000000 by decide) rfl).mono ?_
      rintro r w4 ⟨⟨z, rfl⟩, hl⟩
      rw [HPA.out] at hl
      have LL := Lib.hid hl.swap
      clear hl HA128 HPA
      obtain ⟨p0, p1, p2, p3⟩ := LL.out.evAt hb HE.out
      simp only at p0 p1 p2 p3
      go_wp2_with fail
      refine (to27_any _ _ _ _ _).mono ?_
      rintro r w5 ⟨rfl, hb3⟩
      have LL := Lib.hid (LL.out.below hb3)
      clear hb3 p0 p1 p2 p3
      go_wp2_with fail
      refine (LL.out.put ⟨et, ek, ei, er⟩ HB128.out (show 0 + 1 ≤ 1000000 by decide) rfl).mono ?_
      rintro r w6 ⟨⟨z2, rfl⟩, hl⟩
      rw [HPB.out] at hl
      have LL := Lib.hid hl
      clear hl HB128 HPB
      by_cases hx : k < q
      · obtain ⟨⟨ht, hk4, hi, hr⟩, he⟩ : ∃ e, hd[k]? = some e := ⟨_, List.getElem?_eq_getElem (by rw [HQ.out]; omega)⟩
        obtain ⟨b2, o2, rfl, hb2, pe⟩ := HH.out.evAt he
        have HF := Lib.hid pe
        obtain ⟨p0, p1, p2, p3⟩ := LL.out.evAt hb2 pe
        have j1 : (k : Int) < q := by omega
        clear he pe
        simp only at p0 p1 p2 p3
        by_cases h4 : hk4 = 4
        · subst h4
          have hck := fun w' => refcheck27_any ht 4 hi hr w'
          obtain ⟨ck, hc⟩ : ∃ v, evC ht 4 hi hr = v := ⟨_, rfl⟩
          simp only [hc] at hck
          have HCK := Lib.hid hck
          clear hck
          by_cases hc0 : ck = 0
          · subst hc0
            obtain ⟨hr0, hr8⟩ := evC_role hc
            obtain ⟨R, rfl⟩ := Int.eq_ofNat_of_zero_le hr0
            have hAz := and_i64z m R HM.out
            have HC := Lib.hid hc
            have hR : (R : Int) < 64 := by omega
            have hm2 : (m : Int) < 256 := by have := HM.out; omega
            clear hc hr0 hr8
            cases htb : m.testBit R
            · rw [htb] at hAz
              obtain ⟨hpb, hd2⟩ := HD1.out.hid HLB.out (by omega) ⟨ht, 4, hi, R⟩ HC.out rfl R rfl htb
              have HPB := Lib.hid hpb
              have HD2 := Lib.hid hd2
              have HAZ := Lib.hid hAz
              clear htb hpb hd2 hAz
              go_wp2_with fail
              refine (HCK.out _).mono ?_
              rintro r w7 ⟨rfl, hb3⟩
              have LL := Lib.hid (LL.out.below hb3)
              clear hb3 p0 p1 p2 p3
              obtain ⟨p0, p1, p2, p3⟩ := LL.out.evAt hb2 HF.out
              have hAz := HAZ.out
              simp only at p0 p1 p2 p3
              go_wp2_with fail
              refine (to27_any _ _ _ _ _).mono ?_
              rintro r w8 ⟨rfl, hb3⟩
              have LL := Lib.hid (LL.out.below hb3)
              clear hb3 p0 p1 p2 p3
              go_wp2_with fail
              refine (LL.out.put ⟨ht, 4, hi, R⟩ HB128'.out (show 0 + 1 ≤ 1000000 by decide) rfl).mono ?_
              rintro r w9 ⟨⟨z3, rfl⟩, hl⟩
              rw [HPB.out] at hl
              have LL := Lib.hid hl.swap
              clear hl
              go_wp2_with fail
              go_roundg (N - (k + 1))
              case measure => exact meas hk hlt
              case rel => exact ⟨k + 1, meas2 hlt, by go_num, _, _, HD2.out, LL.out⟩
            · rw [htb] at hAz
              have HAZ := Lib.hid hAz
              clear htb hAz
              go_wp2_with fail
              refine (HCK.out _).mono ?_
              rintro r w7 ⟨rfl, hb3⟩
              have LL := Lib.hid (LL.out.below hb3)
              clear hb3 p0 p1 p2 p3
              obtain ⟨p0, p1, p2, p3⟩ := LL.out.evAt hb2 HF.out
              have hAz := HAZ.out
              simp only at p0 p1 p2 p3
              go_wp2_with fail
              go_roundg (N - (k + 1))
              case measure => exact meas hk hlt
              case rel => exact ⟨k + 1, meas2 hlt, by go_num, _, _, HD1.out, LL.out.swap⟩
          · have f1 : (ck == 0) = false := by simpa using hc0
            clear hc
            go_wp2_with fail
            refine (HCK.out _).mono ?_
            rintro r w7 ⟨rfl, hb3⟩
            have LL := Lib.hid (LL.out.below hb3)
            clear hb3 p0 p1 p2 p3
            go_wp2_with fail
            go_roundg (N - (k + 1))
            case measure => exact meas hk hlt
            case rel => exact ⟨k + 1, meas2 hlt, by go_num, _, _, HD1.out, LL.out.swap⟩
        · have f1 : (hk4 == 4) = false := by simpa using h4
          go_wp2_with fail
          go_roundg (N - (k + 1))
          case measure => exact meas hk hlt
          case rel => exact ⟨k + 1, meas2 hlt, by go_num, _, _, HD1.out, LL.out.swap⟩
      · have j1 : ¬ (k : Int) < q := by omega
        go_wp2_with fail
        go_roundg (N - (k + 1))
        case measure => exact meas hk hlt
        case rel => exact ⟨k + 1, meas2 hlt, by go_num, _, _, HD1.out, LL.out.swap⟩
    · obtain rfl : k = N := by omega
      have HX := Lib.hid (show ¬ ((k : Int) < n) ∨ ¬ ((k : Int) < 60) by have := HN3.out; omega)
      have HD0 := Lib.hid hd0
      have i3 : (0 : Int) ≤ k := by omega
      have hx := HX.out
      have hla := hd0.la
      have hlb := hd0.lb
      have HEA := Lib.hid (show ∀ e ∈ (sa, 0).1, 0 ≤ e.r ∧ e.r < 8 from fun e he => evC_role (hd0.ca e he))
      have HEB := Lib.hid (show ∀ e ∈ (sb, 0).1, 0 ≤ e.r ∧ e.r < 8 from fun e he => evC_role (hd0.cb e he))
      have HNA := Lib.hid (show (sa, 0).1.length ≤ 1000000 by simp only; omega)
      have HNB := Lib.hid (show (sb, 0).1.length ≤ 1000000 by simp only; omega)
      clear hd0 hla hlb hk hlt HX
      go_wp2_with fail
      all_goals (
        clear hx
        refine (LL.out.read HNA.out HEA.out m HM.out).mono ?_
        rintro r w3 ⟨A3, n3, c3, rfl, hn3, hl⟩
        simp only at hn3 hl
        obtain ⟨X, hX⟩ : ∃ X, keepE (sD m fun _ => true) sa = X := ⟨_, rfl⟩
        have HY := Lib.hid (show X = keepE (sD m fun _ => true) sb by rw [← hX]; exact HD0.out.eq)
        have HN3' := Lib.hid (show n3 ≤ 1000000 by rw [hn3]; exact Nat.le_trans (List.length_filter_le _ _) HNA.out)
        rw [hX] at hn3 hl
        have HX3 := Lib.hid hn3
        have LL := Lib.hid hl.swap
        clear hl hX hn3
        go_wp2_with fail
        refine (LL.out.read HNB.out HEB.out m HM.out).mono ?_
        rintro r w4 ⟨A4, n4, c4, rfl, hn4, hl⟩
        simp only at hn4 hl
        rw [← HY.out] at hn4 hl
        rw [← HX3.out] at hn4
        subst hn4
        have LL := Lib.hid hl
        clear hl
        have hn128 := HN3'.out
        have hne : (((n4 : Nat) : Int) != ((n4 : Nat) : Int)) = false := by simp
        go_wp2_with fail
        go_loopg [12] n4 (fun gg s12 wr => ∃ j : Nat, j + gg = n4 ∧ s12 = .int .i64 j ∧ Lg2 W [] [evRow A4 n4 c4 X, evRow A3 n4 c3 X] (W.heap.size + 1) (sb, 0) W.heap.size (sa, 0) wr)
        case atStart => exact ⟨0, by omega, rfl, LL.out⟩
        case round =>
          obtain ⟨j, hj, rfl, L⟩ := hrel
          clear LL
          by_cases hjl : j < n4
          · obtain ⟨⟨et, ek, ei, er⟩, he⟩ : ∃ e, X[j]? = some e := ⟨_, List.getElem?_eq_getElem (by rw [← HX3.out]; exact hjl)⟩
            obtain ⟨b4, o4, rfl, p0, p1, p2, p3⟩ := L.rowAt (A := A4) (n := n4) (c := c4) (by simp) HX3.out.symm he
            obtain ⟨b3, o3, rfl, q0, q1, q2, q3⟩ := L.rowAt (A := A3) (n := n4) (c := c3) (by simp) HX3.out.symm he
            have LL := Lib.hid L
            have hne4 := fun w' => ne4e w' et ek ei er
            have j1 : (j : Int) < n4 := by omega
            have j2 : (0 : Int) ≤ j := by omega
            have j3 : (n4 : Int) ≤ 1000000 := by omega
            simp only at p0 p1 p2 p3 q0 q1 q2 q3
            clear L he
            go_wp2_with fail
            go_quiet (fail)
            go_wp2_with fail
            go_roundg (n4 - (j + 1))
            case measure => exact meas hj hjl
            case rel => exact ⟨j + 1, meas2 hjl, by go_num, LL.out.below (Bdn (Below.refl _ _) _)⟩
          · obtain rfl : j = n4 := by omega
            have LL := Lib.hid L
            clear L hj hjl
            go_wp2_with fail
            refine (known27 _).mono ?_
            rintro r w5 ⟨rfl, hb⟩
            have LL := Lib.hid (LL.out.below hb)
            clear hb
            go_wp2
            go_ret
            exact ⟨rfl, LL.out.bel⟩)
theorem contract_eventsHides (W : World) (v0 v1 v2 : Value) (a0 : ∃ A n c zs, v0 = .slice A n c ∧ n ≤ c ∧ c ≤ maxLen ∧ Flat 4 W A n zs) (a1 : ∃ A n c zs, v1 = .slice A n c ∧ n ≤ c ∧ c ≤ maxLen ∧ Flat 4 W A n zs) (a2 : ∃ z, v2 = .int .i64 z ∧ in64 z) :
    Calls Try.prog 3 #[v0, v1, v2] W fun e W' => e = .returned (.bool true) ∧ Below W.heap.size W W' := by
  obtain ⟨A, n, c, zs, rfl, h1, h2, h3⟩ := a0
  obtain ⟨A', n', c', zs', rfl, h1', h2', h3'⟩ := a1
  obtain ⟨z, rfl, -⟩ := a2
  obtain ⟨es, rfl, hr, -⟩ := h3.evs
  obtain ⟨es', rfl, hr', -⟩ := h3'.evs
  unfold maxLen at h2 h2'
  exact eventsHides_main W A A' c c' es es' hr hr' (by omega) (by omega) z
end Go.Proofs.Ytnopmdhjamkoaaa
