/- Contracts of package script: Ticks. -/
import Derived.Test.YtnopmdhjamkoaaaDoorSc3
import Derived.Test.YtnopmdhjamkoaaaDoorExtE
namespace Go.Proofs.YtnopmdhjamkoaaaDoor
set_option linter.unusedVariables false
set_option linter.unusedSimpArgs false
open Go.RowKit

/-- A box of a step, and what comes behind a call. -/
theorem stbox {w w1 w2 : World} {e : St} (hw : w.alloc (.cells #[.int .i64 e.k, .int .i64 e.who, .int .i64 e.n, .slice e.A e.l e.c] 62) = w1) (hb : Below w1.heap.size w1 w2) :
    Below w.heap.size w w2 ∧ w2.cell? ⟨w.heap.size, 0, none⟩ = some (.int .i64 e.k) ∧ w2.cell? ⟨w.heap.size, 1, none⟩ = some (.int .i64 e.who) ∧ w2.cell? ⟨w.heap.size, 2, none⟩ = some (.int .i64 e.n) ∧ w2.cell? ⟨w.heap.size, 3, none⟩ = some (.slice e.A e.l e.c) := by
  subst hw
  exact sccells hb
set_option maxRecDepth 100000 in
set_option maxHeartbeats 4000000 in
theorem ticks_any (w : World) (hT : TabU w) (l : List St) (A : Option Addr) (c : Nat) (hl : Rd w w.heap.size 4 A l.length (sts l)) (hn : l.length ≤ 1000) :
    Calls Tryd.prog 37 #[.slice A l.length c] w fun r w' => r = .returned (.int .i64 (tickS l)) ∧ Below w.heap.size w w' := by
  obtain ⟨n, hN⟩ : ∃ n, l.length = n := ⟨_, rfl⟩
  have HAt := Lib.hid (show ∀ w' k e, Below w.heap.size w w' → l[k]? = some e → ∃ b o, A = some ⟨b, o, none⟩ ∧ b < w'.heap.size ∧ StAt w' b o k e from fun w' k e hb hk => by
    obtain ⟨b, o, h1, h2, h3⟩ := hl.stAt hk
    exact ⟨b, o, h1, Nat.lt_of_lt_of_le h2 hb.size, h3.below hb h2⟩)
  rw [hN] at hn ⊢
  have HN := Lib.hid hN
  have HT := Lib.hid hT
  have hn1 : (n : Int) ≤ 1000 := by omega
  have HB0 := Lib.hid (Below.refl w.heap.size w)
  clear hl hN hT
  go_enter Tryd.func37, Tryd.ntmps37
  go_wp2_with fail
  go_loopg [3, 8] n (fun gg s3 s8 wr => ∃ k : Nat, k + gg = n ∧ s8 = .int .i64 k ∧ s3 = .int .i64 (tickS (l.take k)) ∧ Below w.heap.size w wr)
  case atStart => exact ⟨0, by omega, rfl, by simp [tickS], HB0.out⟩
  case round =>
    obtain ⟨k, hk, rfl, rfl, hb⟩ := hrel
    have HB := Lib.hid hb
    clear HB0 hb
    by_cases hlt : k < n
    · obtain ⟨e, he⟩ : ∃ e, l[k]? = some e := ⟨_, List.getElem?_eq_getElem (by rw [HN.out]; exact hlt)⟩
      obtain ⟨b, o, rfl, hbl, hAt⟩ := HAt.out wr k e HB.out he
      have ht := tickS_take l he
      have hr := (tickS_le (l.take k)).1
      have hr2 := (tickS_le (l.take k)).2
      have ho := tick_one e
      have hlen : (l.take k).length ≤ 1000 := by simp; omega
      have hr3 : tickS (l.take k) ≤ 200000 := by omega
      obtain ⟨T, hTT⟩ : ∃ T, tickS (l.take k) = T := ⟨_, rfl⟩
      rw [hTT] at hr hr3 ht ⊢
      obtain ⟨C, hC⟩ : ∃ C, e.chk = C := ⟨_, rfl⟩
      rw [hC] at ht ho
      obtain ⟨ek, ew, en, eA, el, ec⟩ := e
      obtain ⟨a0, a1, a2, a3⟩ := hAt
      simp only at a0 a1 a2 a3 ht ho
      have hB1 := HB.out.alloc HB.out.size (.cells #[.int .i64 ek, .int .i64 ew, .int .i64 en, .slice eA el ec] 62)
      have HB1 := Lib.hid hB1
      have hchk := (scrc_any ek ew en eA el ec).1 _ (HT.out.keep hB1)
      rw [show scC ek ew en el = C from hC] at hchk
      have HC := Lib.hid hchk
      have HX := Lib.hid (fun w2 => sccells (w := wr) (w1 := w2) (k := ek) (who := ew) (n := en) (A := eA) (len := el) (cap := ec))
      have HHT := Lib.hid ht
      have i1 : (k : Int) < n := by omega
      have i2 : (0 : Int) ≤ k := by omega
      clear hTT hr2 hlen he hC hB1 hchk ht hbl
      by_cases h0 : ek = 0
      · subst h0
        by_cases hc0 : C = 0
        · subst hc0
          rw [if_pos ⟨rfl, rfl⟩] at ho
          have HE := Lib.hid (show tickS (l.take (k + 1)) = T + en from by rw [HHT.out, if_pos ⟨rfl, rfl⟩])
          obtain ⟨o1, o2⟩ := ho
          go_wp2_with fail
          with_reducible refine (HC.out).mono ?_
          rintro r w2 ⟨rfl, hb⟩
          obtain ⟨hb, -, -, c2, -⟩ := HX.out _ hb
          have HB2 := Lib.hid (HB.out.trans (hb.mono HB.out.size))
          clear hb HB1 a0 a1 a2 a3
          go_wp2_with fail
          go_roundg (n - (k + 1))
          case measure => exact meas hk hlt
          case rel => exact ⟨k + 1, meas2 hlt, by go_num, by rw [HE.out], HB2.out⟩
        · have hc1 : (C == 0) = false := by simpa using hc0
          have HE := Lib.hid (show tickS (l.take (k + 1)) = T from by rw [HHT.out, if_neg (by omega)]; omega)
          clear ho hc0
          go_wp2_with fail
          with_reducible refine (HC.out).mono ?_
          rintro r w2 ⟨rfl, hb⟩
          obtain ⟨hb, -, -, c2, -⟩ := HX.out _ hb
          have HB2 := Lib.hid (HB.out.trans (hb.mono HB.out.size))
          clear hb HB1 a0 a1 a2 a3
          go_wp2_with fail
          go_roundg (n - (k + 1))
          case measure => exact meas hk hlt
          case rel => exact ⟨k + 1, meas2 hlt, by go_num, by rw [HE.out], HB2.out⟩
      · have h1 : (ek == 0) = false := by simpa using h0
        have HE := Lib.hid (show tickS (l.take (k + 1)) = T from by rw [HHT.out, if_neg (by omega)]; omega)
        clear ho h0
        go_wp2_with fail
        go_roundg (n - (k + 1))
        case measure => exact meas hk hlt
        case rel => exact ⟨k + 1, meas2 hlt, by go_num, by rw [HE.out], HB1.out⟩
    · obtain rfl : k = n := by omega
      have e1 : l.take k = l := List.take_of_length_le (by rw [HN.out]; exact Nat.le_refl _)
      rw [e1]
      clear hlt hk e1
      go_wp2_with fail
      go_ret
      exact ⟨rfl, HB.out⟩
end Go.Proofs.YtnopmdhjamkoaaaDoor
