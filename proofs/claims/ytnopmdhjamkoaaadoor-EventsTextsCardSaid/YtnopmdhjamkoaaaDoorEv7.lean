/- Contracts of package events: slices.DeleteFunc over such's closure. -/
import Derived.Test.YtnopmdhjamkoaaaDoorEv6
namespace Go.Proofs.YtnopmdhjamkoaaaDoor
set_option linter.unusedVariables false
set_option linter.unusedSimpArgs false
open Go.RowKit

theorem set_take (L : List Ev) (i : Nat) (e : Ev) (h : i < L.length) : (L.set i e).take (i + 1) = L.take i ++ [e] := by
  rw [List.take_succ_eq_append_getElem (by simpa using h), List.take_set_of_le (Nat.le_refl _)]
  simp
theorem evs_take : ∀ (L : List Ev) (i : Nat), (evs L).take (i * 4) = evs (L.take i)
  | [], i => by simp [evs]
  | a :: L, 0 => by simp [evs]
  | a :: L, i + 1 => by
    have ih := evs_take L i
    have h : evs (a :: L) = .int .i64 a.t :: .int .i64 a.k :: .int .i64 a.i :: .int .i64 a.r :: evs L := by simp [evs, Ev.cs]
    rw [h, show (i + 1) * 4 = i * 4 + 1 + 1 + 1 + 1 by omega]
    simp only [List.take_succ_cons, ih]
    simp [evs, Ev.cs]
theorem take_eq_of {xs ys : List Value} {o : Nat} (h : ∀ p, p < o → ys[p]? = xs[p]?) : ys.take o = xs.take o := by
  apply List.ext_getElem?
  intro p
  rw [List.getElem?_take, List.getElem?_take]
  split
  · exact h p (by assumption)
  · rfl
theorem clear_ex (w : World) (b o n c : Nat) (hn : 0 < n) (hc : ∀ j, j < n * 4 → (w.cell? ⟨b, o + j, none⟩).isSome = true) (hf : ∀ j, j < n * 4 → w.frozen? ⟨b, o + j, none⟩ = false) :
    ∃ C : List Value, C.length = n * 4 ∧ ∀ ty, (Builtin.clear_ #[33] ty #[.slice (some ⟨b, o, none⟩) n c]).run Tryd.prog w = .ok (.tuple #[]) (w.setCells b o C) := by
  obtain ⟨C, h1, h2⟩ := run_clear_events w 0 b o n c hn hc hf
  exact ⟨C, h1, fun ty => h2⟩
set_option maxRecDepth 100000 in
set_option maxHeartbeats 3200000 in
theorem delf_any (W : World) (bl : Bl) (ow : List Ro) (A : Option Addr) (c : Nat) (l : List Ev) (hn : l.length ≤ 1000000) (p1 p2 : Value) (D : Ev → Bool)
    (HD : ∀ w' ow', Mst W w' bl ow' → ∀ e ∈ l, Calls Tryd.prog 83 #[e.v, p1, p2] w' fun r w2 => r = .returned (.bool (D e)) ∧ Below w'.heap.size w' w2)
    (w : World) (hM : Mst W w bl (evRow A l.length c l :: ow)) :
    Calls Tryd.prog 81 #[.slice A l.length c, .func (Fn.func 83) #[] #[p1, p2]] w fun r w' => ∃ A' m c', r = .returned (.slice A' m c') ∧ m = (keepE D l).length ∧ Mst W w' bl (evRow A' m c' (keepE D l) :: ow) := by
  have HIX := Lib.hid (ixf_any W bl ow A c l hn p1 p2 D HD w hM)
  obtain ⟨n, hN⟩ : ∃ n, l.length = n := ⟨_, rfl⟩
  have HN := Lib.hid hN
  have HDD := Lib.hid HD
  obtain ⟨X, hX⟩ : ∃ X, ixI D l = X := ⟨_, rfl⟩
  have hsp := ixI_split (D := D) (l := l)
  rw [hX] at hsp
  simp only [hN, hX] at HIX
  rw [hN] at hsp hn ⊢
  clear hN HD hM hX
  rcases hsp with ⟨rfl, hk⟩ | ⟨i0, rfl, hi0, hk⟩
  · have HK := Lib.hid hk
    clear hk
    go_enter Tryd.func81, Tryd.ntmps81
    go_wp2_with fail
    refine HIX.out.mono ?_
    rintro r w1 ⟨rfl, m⟩
    have Mq := Lib.hid m
    clear m HIX
    go_wp2
    go_ret
    exact ⟨A, n, c, rfl, by rw [HK.out, HN.out], by rw [HK.out]; exact Mq.out⟩
  · have HK := Lib.hid hk
    have i1 : (0 : Int) ≤ i0 := by omega
    have i2 : (i0 : Int) ≤ 1000000 := by omega
    clear hk
    go_enter Tryd.func81, Tryd.ntmps81
    go_wp2_with fail
    refine HIX.out.mono ?_
    rintro r w1 ⟨rfl, m⟩
    obtain ⟨A2, c2, e2, -, -, -, hA⟩ := own_form (m.row [])
    injection e2 with e2 _ e3
    subst e2 e3
    obtain ⟨g, rfl, -, -⟩ := hA (by omega)
    have Mq := Lib.hid m
    clear m HIX hA
    go_wp2_with fail
    go_loopg [5, 6] (n - (i0 + 1)) (fun gg s5 s6 wr => ∃ (i j : Nat) (L : List Ev), j + gg = n ∧ s5 = .int .i64 i ∧ s6 = .int .i64 j ∧ DlR W bl ow (some ⟨g, 0, none⟩) n c l D i j L wr)
    case atStart => exact ⟨i0, i0 + 1, l, by omega, rfl, by go_num, ⟨HN.out, HK.out.symm, fun _ _ => rfl, Nat.lt_succ_self _, Mq.out⟩⟩
    case round =>
      obtain ⟨i, j, L, hj, rfl, rfl, hd⟩ := hrel
      have HL := Lib.hid hd
      have hij := hd.lt
      by_cases hlt : j < n
      · obtain ⟨e, he⟩ : ∃ e, l[j]? = some e := ⟨_, List.getElem?_eq_getElem (by rw [HN.out]; exact hlt)⟩
        have hLe : L[j]? = some e := by rw [hd.eq j (Nat.le_refl _)]; exact he
        have hrow := hd.m.row []
        obtain ⟨v0, v1, v2, v3⟩ := evs_get hLe
        have q0 := (hrow.cellAt (j * 4) (by omega)).trans v0
        have q1 := (hrow.cellAt (j * 4 + 1) (by omega)).trans v1
        have q2 := (hrow.cellAt (j * 4 + 2) (by omega)).trans v2
        have q3 := (hrow.cellAt (j * 4 + 3) (by omega)).trans v3
        have HE := Lib.hid he
        obtain ⟨et, ek, ei, er⟩ := e
        simp only at q0 q1 q2 q3
        have Mq := Lib.hid (hd.m.new 30 #[.int .i64 et, .int .i64 ek, .int .i64 ei, .int .i64 er])
        have HC := Lib.hid (HDD.out _ _ Mq.out.dropb ⟨et, ek, ei, er⟩ (List.mem_of_getElem? he))
        have j1 : (j : Int) < n := by omega
        have j2 : (0 : Int) ≤ j := by omega
        have j3 : (n : Int) ≤ 1000000 := by omega
        have j4 : (i : Int) < n := by omega
        have j5 : (0 : Int) ≤ i := by omega
        clear hd hLe hrow v0 v1 v2 v3 he
        go_wp2_with fail
        refine HC.out.mono ?_
        rintro r w2 ⟨rfl, hb⟩
        have Mq := Lib.hid (Mq.out.below hb)
        clear hb q0 q1 q2 q3 HC
        have c0 := (Mq.out.blk []).cell 0
        have c1 := (Mq.out.blk []).cell 1
        have c2 := (Mq.out.blk []).cell 2
        have c3 := (Mq.out.blk []).cell 3
        simp only [List.getElem?_toArray, List.getElem?_cons_zero, List.getElem?_cons_succ] at c0 c1 c2 c3
        cases hD : D ⟨et, ek, ei, er⟩
        · have HD2 := Lib.hid hD
          clear hD
          have hlen := HL.out.len
          obtain ⟨y, hy⟩ : ∃ y, L[i]? = some y := ⟨_, List.getElem?_eq_getElem (by omega)⟩
          obtain ⟨v0, v1, v2, v3⟩ := evs_get hy
          have hrow := Mq.out.row []
          have q0 := (hrow.cellAt (i * 4) (by omega)).trans v0
          have q1 := (hrow.cellAt (i * 4 + 1) (by omega)).trans v1
          have q2 := (hrow.cellAt (i * 4 + 2) (by omega)).trans v2
          have q3 := (hrow.cellAt (i * 4 + 3) (by omega)).trans v3
          have f0 := hrow.frozenAt (i * 4)
          have f1 := hrow.frozenAt (i * 4 + 1)
          have f2 := hrow.frozenAt (i * 4 + 2)
          have f3 := hrow.frozenAt (i * 4 + 3)
          have Mr := Lib.hid ((((Mq.out.rset [] (i * 4) (.int .i64 et)).rset [] (i * 4 + 1) (.int .i64 ek)).rset [] (i * 4 + 2) (.int .i64 ei)).rset [] (i * 4 + 3) (.int .i64 er))
          clear hlen hy v0 v1 v2 v3 hrow
          go_wp2_with fail
          generalize hw3 : World.setCell _ _ _ = w3
          have Mr := Lib.hid (Mr.out.toV hw3 rfl)
          clear hw3 q0 q1 q2 q3 f0 f1 f2 f3 c0 c1 c2 c3
          go_roundg (n - (j + 1))
          case measure => exact meas hj hlt
          case rel => exact ⟨i + 1, j + 1, L.set i ⟨et, ek, ei, er⟩, meas2 hlt, by go_num, by go_num, ⟨by rw [List.length_set]; exact HL.out.len, by
            have h2 : l.take (j + 1) = l.take j ++ [⟨et, ek, ei, er⟩] := by rw [List.take_add_one, HE.out]; rfl
            rw [h2, keepE_snoc, if_neg (by rw [HD2.out]; decide), ← HL.out.tk]
            exact set_take L i _ (by rw [HL.out.len]; omega), fun p hp => by
            rw [List.getElem?_set, if_neg (by omega)]
            exact HL.out.eq p (by omega), by omega, by
            have m := Mr.out.dropb
            simp only [List.nil_append] at m
            have h := evs_set L i ⟨et, ek, ei, er⟩
            rw [if_pos (by rw [HL.out.len]; omega)] at h
            simp only at h
            rw [h] at m
            exact m⟩⟩
        · have HD2 := Lib.hid hD
          clear hD c0 c1 c2 c3
          go_wp2_with fail
          go_roundg (n - (j + 1))
          case measure => exact meas hj hlt
          case rel => exact ⟨i, j + 1, L, meas2 hlt, rfl, by go_num, ⟨HL.out.len, by
            have h2 : l.take (j + 1) = l.take j ++ [⟨et, ek, ei, er⟩] := by rw [List.take_add_one, HE.out]; rfl
            rw [h2, keepE_snoc, if_pos HD2.out]
            exact HL.out.tk, fun p hp => HL.out.eq p (by omega), by omega, Mq.out.dropb⟩⟩
      · obtain rfl : j = n := by omega
        have hlen := hd.len
        have hrow := hd.m.row []
        have htk : L.take i = keepE D l := by
          have h := hd.tk
          rwa [show l.take j = l from List.take_of_length_le (by rw [HN.out]; exact Nat.le_refl _)] at h
        have hkl : (keepE D l).length = i := by rw [← htk, List.length_take, hlen]; omega
        have hcap : j ≤ c ∧ c ≤ 9223372036854775807 := by
          rcases hrow.2 with ⟨h1, _⟩ | ⟨g', cap', cur, h1, _, _, h4, h5, _⟩
          · cases h1
          · injection h1 with _ _ h1
            unfold maxLen at h5
            omega
        obtain ⟨C, hC1, hC2⟩ := (fun (h : ∃ C : List Value, C.length = (j - i) * 4 ∧ ∀ ty, (Builtin.clear_ #[33] ty #[.slice (some ⟨g, i * 4, none⟩) (j - i) (c - i)]).run Tryd.prog wr = .ok (.tuple #[]) (wr.setCells g (i * 4) C)) => h) (clear_ex wr g (i * 4) (j - i) (c - i) (by omega) (fun p hp => by
            rw [hrow.cellAt (i * 4 + p) (by omega)]
            have : i * 4 + p < (evs L).length := by rw [evs_length, hlen]; omega
            rw [List.getElem?_eq_getElem this]
            rfl) (fun p hp => hrow.frozenAt _))
        obtain ⟨ys, hy, my⟩ := Mst.rsets [] C (i * 4) (evs L) wr hd.m
        have hys : ys.take (i * 4) = evs (keepE D l) := by
          rw [← htk, ← evs_take]
          exact take_eq_of hy
        have mc := my.rcut [] i (by omega)
        rw [hys] at mc
        have HMC := Lib.hid mc
        have HKL := Lib.hid hkl
        have j1 : ¬ c = i := by omega
        have j2 : (i : Int) ≤ j := by omega
        have j3 : (j : Int) ≤ c := by omega
        have j4 : (c : Int) ≤ 9223372036854775807 := by omega
        have j5 : (0 : Int) ≤ i := by omega
        clear hlen hrow htk hkl hcap hC1 hy my hys mc hd hj
        go_wp2
        go_ret
        exact ⟨_, i, c, rfl, HKL.out.symm, HMC.out⟩
end Go.Proofs.YtnopmdhjamkoaaaDoor
