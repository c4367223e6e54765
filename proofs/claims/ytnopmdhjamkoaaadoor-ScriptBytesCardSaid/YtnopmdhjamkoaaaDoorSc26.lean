/- script.Same of a step and itself; the law that no step is wrong (slices.ContainsFunc). -/
import Derived.Test.YtnopmdhjamkoaaaDoorSc11
import Derived.Test.YtnopmdhjamkoaaaDoorEqual
namespace Go.Proofs.YtnopmdhjamkoaaaDoor
set_option linter.unusedVariables false
set_option linter.unusedSimpArgs false
open Go.RowKit
set_option maxRecDepth 100000 in
set_option maxHeartbeats 4000000 in
theorem ssame_any (w : World) (k q m : Int) (A : Option Addr) (l : List UInt8) (L c : Nat) (hL : l.length = L) (hr : RB w w.heap.size A l) :
    Calls Tryd.prog 48 #[.agg #[.int .i64 k, .int .i64 q, .int .i64 m, .slice A L c], .agg #[.int .i64 k, .int .i64 q, .int .i64 m, .slice A L c]] w fun r w' => r = .returned (.bool true) ∧ Below w.heap.size w w' := by
  have m1 := ((Mst.start w).new 62 #[.int .i64 k, .int .i64 q, .int .i64 m, .slice A L c])
  have m2 := m1.new 62 #[.int .i64 k, .int .i64 q, .int .i64 m, .slice A L c]
  rw [show (w.alloc (.cells #[.int .i64 k, .int .i64 q, .int .i64 m, .slice A L c] 62)).heap.size = w.heap.size + 1 by simp] at m2
  have HE := Lib.hid (show ∀ w', Below w.heap.size w w' → Calls Tryd.prog 73 #[.slice A L c, .slice A L c] w' fun e w2 => e = .returned (.bool true) ∧ w' = w2 from fun w' hb => by
    have h := equal_is A A c c l l true (by simp) w' ((RB.below hr hb).more hb.size) ((RB.below hr hb).more hb.size)
    rw [hL] at h
    exact h)
  have Mq := Lib.hid m2
  have c0 := (m2.blk [_]).cell 0
  have c1 := (m2.blk [_]).cell 1
  have c2 := (m2.blk [_]).cell 2
  have c3 := (m2.blk [_]).cell 3
  have d0 := (m2.blk []).cell 0
  have d1 := (m2.blk []).cell 1
  have d2 := (m2.blk []).cell 2
  have d3 := (m2.blk []).cell 3
  simp only [List.getElem?_toArray, List.getElem?_cons_zero, List.getElem?_cons_succ] at c0 c1 c2 c3 d0 d1 d2 d3
  have n1 : (k == k) = true := by simp
  have n2 : (q == q) = true := by simp
  have n3 : (m == m) = true := by simp
  clear m1 m2 hr hL
  go_enter Tryd.func48, Tryd.ntmps48
  go_wp2_with fail
  with_reducible refine (HE.out _ Mq.out.bel).mono ?_
  rintro r w1 ⟨rfl, rfl⟩
  go_wp2_with fail
  go_ret
  exact ⟨rfl, Mq.out.bel⟩
set_option maxRecDepth 100000 in
theorem sclo_any (w : World) (hT : TabU w) (k q m : Int) (A : Option Addr) (L c : Nat) (hc : scC k q m L = 0) :
    Calls Tryd.prog 79 #[.agg #[.int .i64 k, .int .i64 q, .int .i64 m, .slice A L c]] w fun r w' => r = .returned (.bool false) ∧ Below w.heap.size w w' := by
  have Mq := Lib.hid ((Mst.start w).new 62 #[.int .i64 k, .int .i64 q, .int .i64 m, .slice A L c])
  have HC := Lib.hid (show ∀ w', Below w.heap.size w w' → Calls Tryd.prog 35 #[.agg #[.int .i64 k, .int .i64 q, .int .i64 m, .slice A L c]] w' fun r w2 => r = .returned (.int .i64 0) ∧ Below w'.heap.size w' w2 from fun w' hb => by
    have h := (scrc_any k q m A L c).1 w' (hT.keep hb)
    rw [hc] at h
    exact h)
  have c0 := (Mq.out.blk []).cell 0
  have c1 := (Mq.out.blk []).cell 1
  have c2 := (Mq.out.blk []).cell 2
  have c3 := (Mq.out.blk []).cell 3
  simp only [List.getElem?_toArray, List.getElem?_cons_zero, List.getElem?_cons_succ] at c0 c1 c2 c3
  clear hT hc
  go_enter Tryd.func79, Tryd.ntmps79
  go_wp2_with fail
  with_reducible refine (HC.out _ Mq.out.bel).mono ?_
  rintro r w1 ⟨rfl, hb⟩
  have Mq := Lib.hid (Mq.out.below hb)
  clear hb
  go_wp2_with fail
  go_ret
  exact ⟨rfl, Mq.out.bel⟩
set_option maxRecDepth 100000 in
set_option maxHeartbeats 1000000 in
theorem sixf_any (w : World) (hT : TabU w) (A : Option Addr) (c n : Nat) (l : List St) (hN : l.length = n) (hn : n ≤ 1000000) (hl : Rd w w.heap.size 4 A n (sts l)) (hok : ∀ e ∈ l, e.chk = 0) :
    Calls Tryd.prog 98 #[.slice A n c, .func (Fn.func 79) #[] #[]] w fun r w' => r = .returned (.int .i64 (-1)) ∧ Below w.heap.size w w' := by
  have HAt := Lib.hid (show ∀ w' k e, Below w.heap.size w w' → l[k]? = some e → ∃ b o, A = some ⟨b, o, none⟩ ∧ StAt w' b o k e from fun w' k e hb hk => by
    have hl := hl
    rw [← hN] at hl
    obtain ⟨b, o, h1, h2, h3⟩ := hl.stAt hk
    exact ⟨b, o, h1, h3.below hb h2⟩)
  have HN := Lib.hid hN
  have HT := Lib.hid hT
  have HOK := Lib.hid hok
  have HB0 := Lib.hid (Below.refl w.heap.size w)
  clear hl hN hT hok
  go_enter Tryd.func98, Tryd.ntmps98
  go_wp2_with fail
  go_loopg [8] n (fun gg s8 wr => ∃ k : Nat, k + gg = n ∧ s8 = .int .i64 k ∧ Below w.heap.size w wr)
  case atStart => exact ⟨0, by omega, rfl, HB0.out⟩
  case round =>
    obtain ⟨k, hk, rfl, hb⟩ := hrel
    have HB := Lib.hid hb
    clear HB0 hb
    by_cases hlt : k < n
    · obtain ⟨e, he⟩ : ∃ e, l[k]? = some e := ⟨_, List.getElem?_eq_getElem (by rw [HN.out]; exact hlt)⟩
      obtain ⟨b, o, rfl, hAt⟩ := HAt.out wr k e HB.out he
      have HC := Lib.hid (show ∀ w', Below w.heap.size w w' → _ from fun w' hb => sclo_any w' (HT.out.keep hb) e.k e.who e.n e.A e.l e.c (HOK.out e (List.mem_of_getElem? he)))
      obtain ⟨ek, ew, en, eA, el, ec⟩ := e
      obtain ⟨a0, a1, a2, a3⟩ := hAt
      simp only at a0 a1 a2 a3 HC
      have i1 : (k : Int) < n := by omega
      have i2 : (0 : Int) ≤ k := by omega
      have i3 : (n : Int) ≤ 1000000 := by omega
      clear he
      go_wp2_with fail
      with_reducible refine (HC.out _ HB.out).mono ?_
      rintro r w2 ⟨rfl, hb⟩
      have HB := Lib.hid (HB.out.trans (hb.mono HB.out.size))
      clear hb
      go_wp2_with fail
      go_roundg (n - (k + 1))
      case measure => exact meas hk hlt
      case rel => exact ⟨k + 1, meas2 hlt, by go_num, HB.out⟩
    · obtain rfl : k = n := by omega
      clear hlt hk
      go_wp2_with fail
      go_ret
      exact ⟨rfl, HB.out⟩
theorem scont_any (w : World) (hT : TabU w) (A : Option Addr) (c n : Nat) (l : List St) (hN : l.length = n) (hn : n ≤ 1000000) (hl : Rd w w.heap.size 4 A n (sts l)) (hok : ∀ e ∈ l, e.chk = 0) :
    Calls Tryd.prog 78 #[.slice A n c, .func (Fn.func 79) #[] #[]] w fun r w' => r = .returned (.bool false) ∧ Below w.heap.size w w' := by
  have HI := Lib.hid (sixf_any w hT A c n l hN hn hl hok)
  clear hl hN hT hok
  go_enter Tryd.func78, Tryd.ntmps78
  go_wp2_with fail
  with_reducible refine (HI.out).mono ?_
  rintro r w2 ⟨rfl, hb⟩
  have HB := Lib.hid hb
  clear hb
  go_wp2_with fail
  go_ret
  exact ⟨rfl, HB.out⟩
end Go.Proofs.YtnopmdhjamkoaaaDoor
