/- Contracts of package events: slices.Index, slices.Contains over ints; Read with kinds. -/
import Derived.Test.YtnopmdhjamkoaaaEv13
namespace Go.Proofs.Ytnopmdhjamkoaaa
set_option linter.unusedVariables false
set_option linter.unusedSimpArgs false
open Go.RowKit

abbrev iv (ks : List Int) : List Value := ks.map (Value.int .i64)
set_option maxRecDepth 100000 in
set_option maxHeartbeats 1000000 in
theorem index27_any (w : World) (B : Nat) (A : Option Addr) (c : Nat) (ks : List Int) (v : Int) (hr : Rd w B 1 A ks.length (iv ks)) (hn : ks.length ≤ 1000000) :
    Calls Try.prog 28 #[.slice A ks.length c, .int .i64 v] w fun r w' => ∃ z, r = .returned (.int .i64 z) ∧ decide (0 ≤ z) = ks.contains v ∧ w = w' := by
  obtain ⟨n, hN⟩ : ∃ n, ks.length = n := ⟨_, rfl⟩
  have HN := Lib.hid hN
  have HR := Lib.hid hr
  rw [hN] at hn ⊢
  clear hN hr
  go_enter Try.func28, Try.ntmps28
  go_wp2_with fail
  go_loopg [8] n (fun gg s8 wr => ∃ k : Nat, k + gg = n ∧ s8 = .int .i64 k ∧ Hid (∀ x ∈ ks.take k, x ≠ v) ∧ w = wr)
  case atStart => exact ⟨0, by omega, rfl, Lib.hid (by simp), rfl⟩
  case round =>
    obtain ⟨k, hk, rfl, hd, rfl⟩ := hrel
    by_cases hlt : k < n
    · obtain ⟨x, hx⟩ : ∃ e, ks[k]? = some e := ⟨_, List.getElem?_eq_getElem (by rw [HN.out]; exact hlt)⟩
      obtain ⟨b, o, rfl, hb, hc⟩ := HR.out.2 (by rw [HN.out]; omega)
      have q0 := hc k (.int .i64 x) (by simp [iv, hx])
      have HX := Lib.hid hx
      have i1 : (k : Int) < n := by omega
      have i2 : (0 : Int) ≤ k := by omega
      have i3 : (n : Int) ≤ 1000000 := by omega
      clear hx hc hb
      by_cases he : v = x
      · subst he
        have HX2 := Lib.hid (show decide ((0 : Int) ≤ (k : Int)) = ks.contains v by
          rw [decide_eq_true i2, Eq.comm, List.contains_iff_mem]
          exact List.mem_of_getElem? HX.out)
        have hv : (v == v) = true := by simp
        clear hd
        go_wp2
        try rw [Exit.noGoto_ret]
        go_ret
        exact ⟨_, rfl, HX2.out, rfl⟩
      · have hv : (v == x) = false := by simpa using he
        have HV := Lib.hid he
        clear he
        go_wp2_with fail
        go_roundg (n - (k + 1))
        case measure => exact meas hk hlt
        case rel => exact ⟨k + 1, meas2 hlt, by go_num, Lib.hid (by
          intro y hy
          rw [List.take_add_one, HX.out] at hy
          rcases List.mem_append.1 hy with hy | hy
          · exact hd.out y hy
          · obtain rfl : y = x := by simpa using hy
            exact fun h => HV.out h.symm), rfl⟩
    · obtain rfl : k = n := by omega
      have HX := Lib.hid (show decide ((0 : Int) ≤ -1) = ks.contains v by
        have h := hd.out
        rw [List.take_of_length_le (by rw [HN.out]; exact Nat.le_refl _)] at h
        cases hcv : ks.contains v
        · rfl
        · rw [List.contains_iff_mem] at hcv
          exact absurd rfl (h v hcv))
      clear hd hk hlt
      go_wp2
      go_ret
      exact ⟨_, rfl, HX.out, rfl⟩
theorem contains27_any (w : World) (B : Nat) (A : Option Addr) (c : Nat) (ks : List Int) (v : Int) (hr : Rd w B 1 A ks.length (iv ks)) (hn : ks.length ≤ 1000000) :
    Calls Try.prog 21 #[.slice A ks.length c, .int .i64 v] w fun r w' => r = .returned (.bool (ks.contains v)) ∧ w = w' := by
  have HI := Lib.hid (index27_any w B A c ks v hr hn)
  clear hr
  go_enter Try.func21, Try.ntmps21
  go_wp2_with fail
  refine HI.out.mono ?_
  rintro r w1 ⟨z, rfl, hz, rfl⟩
  have HZ := Lib.hid hz
  clear hz
  go_wp2
  go_ret
  exact ⟨by rw [← HZ.out]; rfl, rfl⟩

theorem read1k_any (w : World) (e : Ev) (q : Nat) (B : Nat) (A : Option Addr) (c : Nat) (ks : List Int) (hr : Rd w B 1 A ks.length (iv ks)) (hB : B ≤ w.heap.size) (hn : ks.length ≤ 1000000) (hq : w.cell? ⟨q, 0, none⟩ = some (.slice A ks.length c)) :
    Calls Try.prog 20 #[e.v, .pointer (some ⟨q, 0, none⟩)] w fun r w' => r = .returned (.bool (ks.isEmpty || ks.contains e.k)) ∧ Below w.heap.size w w' := by
  obtain ⟨et, ek, ei, er⟩ := e
  have hb := block_lt_of_cell hq
  have bb := (Below.refl w.heap.size w).alloc (Nat.le_refl _) (.cells #[.int .i64 et, .int .i64 ek, .int .i64 ei, .int .i64 er] 29)
  have h1 := bb.cell (p := ⟨q, 0, none⟩) hb
  rw [hq] at h1
  have HC := Lib.hid (contains27_any _ B A c ks ek (hr.below (bb.mono hB)) hn)
  obtain ⟨n, hN⟩ : ∃ n, ks.length = n := ⟨_, rfl⟩
  rw [hN] at hn h1 HC
  have HB := Lib.hid bb
  obtain ⟨V, hV⟩ : ∃ V, ks.contains ek = V := ⟨_, rfl⟩
  rw [hV] at HC
  have HV := Lib.hid hV
  clear hq hr bb hV
  by_cases h0 : n = 0
  · have HK := Lib.hid (show ks = [] from List.eq_nil_of_length_eq_zero (by omega))
    subst h0
    clear hN
    go_enter Try.func20, Try.ntmps20
    go_wp2
    go_ret
    exact ⟨by rw [HK.out]; rfl, HB.out⟩
  · have HK := Lib.hid (show ks.isEmpty = false by
      rcases ks with _ | ⟨a, l⟩
      · simp at hN; omega
      · rfl)
    have hn0 : ((n : Int) == 0) = false := by simp; omega
    clear hN h0
    go_enter Try.func20, Try.ntmps20
    go_wp2_with fail
    refine HC.out.mono ?_
    rintro r w2 ⟨rfl, rfl⟩
    go_wp2
    go_ret
    exact ⟨by rw [HK.out, Bool.false_or, HV.out]; rfl, HB.out⟩
set_option maxHeartbeats 1000000 in
theorem such1_readk (w : World) (e : Ev) (m : Nat) (hm : m < 256) (hr0 : 0 ≤ e.r) (hr8 : e.r < 8) (b1 b2 bq : Nat) (B : Nat) (A : Option Addr) (c : Nat) (ks : List Int) (hr : Rd w B 1 A ks.length (iv ks)) (hB : B ≤ w.heap.size) (hn : ks.length ≤ 1000000)
    (h1 : w.cell? ⟨b1, 0, none⟩ = some (.int .i64 m)) (h2 : w.cell? ⟨b2, 0, none⟩ = some (.func (Fn.func 20) #[] #[.pointer (some ⟨bq, 0, none⟩)])) (hq : w.cell? ⟨bq, 0, none⟩ = some (.slice A ks.length c)) :
    Calls Try.prog 27 #[e.v, .pointer (some ⟨b1, 0, none⟩), .pointer (some ⟨b2, 0, none⟩)] w fun r w' => r = .returned (.bool (sD m (fun e => ks.isEmpty || ks.contains e.k) e)) ∧ Below w.heap.size w w' := by
  obtain ⟨et, ek, ei, er⟩ := e
  simp only at hr0 hr8
  obtain ⟨R, rfl⟩ := Int.eq_ofNat_of_zero_le hr0
  have bb := (Below.refl w.heap.size w).alloc (Nat.le_refl _) (.cells #[.int .i64 et, .int .i64 ek, .int .i64 ei, .int .i64 (R : Int)] 29)
  have c1 := bb.cell (p := ⟨b1, 0, none⟩) (block_lt_of_cell h1)
  rw [h1] at c1
  have c2 := bb.cell (p := ⟨b2, 0, none⟩) (block_lt_of_cell h2)
  rw [h2] at c2
  have c3 := bb.cell (p := ⟨bq, 0, none⟩) (block_lt_of_cell hq)
  rw [hq] at c3
  have HS := Lib.hid (read1k_any _ ⟨et, ek, ei, (R : Int)⟩ bq B A c ks (hr.below (bb.mono hB)) (Nat.le_trans hB bb.size) hn c3)
  have HB := Lib.hid bb
  have hA := and_i64z m R hm
  have hR : (R : Int) < 64 := by omega
  have hR2 : R < 8 := by omega
  have hm2 : (m : Int) < 256 := by omega
  clear c3 bb h1 h2 hq hr8 hr
  obtain ⟨V, hV⟩ : ∃ V, (ks.isEmpty || ks.contains ek) = V := ⟨_, rfl⟩
  simp only [hV] at HS
  have HV := Lib.hid hV
  clear hV
  by_cases hk : ek = 4
  · subst hk
    cases hb : m.testBit R
    · rw [hb] at hA
      have HF := Lib.hid hb
      clear hb
      go_enter Try.func27, Try.ntmps27
      go_wp2
      go_ret
      exact ⟨by simp [sD, HF.out], HB.out⟩
    · rw [hb] at hA
      have HF := Lib.hid hb
      clear hb
      go_enter Try.func27, Try.ntmps27
      go_wp2_with fail
      refine HS.out.mono ?_
      rintro r w2 ⟨rfl, hb⟩
      have HB2 := Lib.hid hb
      clear hb
      go_wp2
      go_ret
      exact ⟨by simp [sD, HF.out, ← HV.out], HB.out.trans (HB2.out.mono (by simp))⟩
  · have hk2 : (ek == 4) = false := by simpa using hk
    clear hA
    go_enter Try.func27, Try.ntmps27
    go_wp2_with fail
    refine HS.out.mono ?_
    rintro r w2 ⟨rfl, hb⟩
    have HB2 := Lib.hid hb
    clear hb
    go_wp2
    go_ret
    exact ⟨by simp [sD, hk, ← HV.out], HB.out.trans (HB2.out.mono (by simp))⟩
set_option maxRecDepth 100000 in
set_option maxHeartbeats 1000000 in
theorem readk_any (W w : World) (bl : Bl) (ow : List Ro) (g : Nat) (s : List Ev × Nat) (v : Value) (hL : Lg W w bl ow g s v) (hn : s.1.length ≤ 1000000) (hE : ∀ e ∈ s.1, 0 ≤ e.r ∧ e.r < 8) (m : Nat) (hm : m < 256) (A : Option Addr) (c : Nat) (ks : List Int) (hr : Rd W W.heap.size 1 A ks.length (iv ks)) (hkn : ks.length ≤ 1000000) :
    Calls Try.prog 9 #[.pointer (some ⟨g, 0, none⟩), .int .i64 m, .slice A ks.length c] w fun r w' => ∃ A' n' c', r = .returned (.slice A' n' c') ∧ n' = (keepE (sD m fun e => ks.isEmpty || ks.contains e.k) s.1).length ∧ Mst W w' ((g, 26, #[v, .int .i64 s.2]) :: bl) (evRow A' n' c' (keepE (sD m fun e => ks.isEmpty || ks.contains e.k) s.1) :: ⟨29, 4, v, s.1.length, evs s.1⟩ :: ow) := by
  unfold Lg at hL
  have m1 := (hL.new 38 #[.slice A ks.length c]).backb [_]
  have M1 := Lib.hid m1
  have HC := Lib.hid (fun b1 b2 w' ow' (hm' : Mst W w' ((w.heap.size, 38, #[.slice A ks.length c]) :: bl) ow') h1 h2 e he => such1_readk w' e m hm (hE e he).1 (hE e he).2 b1 b2 w.heap.size W.heap.size A c ks (hr.below hm'.bel) hm'.bel.size hkn h1 h2 (by
    have k := (hm'.blk []).cell 0
    simp at k
    exact k))
  clear hL m1 hr
  obtain ⟨n, hN⟩ : ∃ n, ks.length = n := ⟨_, rfl⟩
  simp only [hN] at M1 HC
  rw [hN]
  obtain ⟨is, his⟩ : ∃ is, (fun e : Ev => ks.isEmpty || ks.contains e.k) = is := ⟨_, rfl⟩
  rw [his] at HC ⊢
  clear hN his
  go_enter Try.func9, Try.ntmps9
  go_wp2_with fail
  refine (such_any W _ _ _ g s v M1.out hn m _ _ _ HC.out).mono ?_
  rintro r w4 ⟨A4, n4, c4, rfl, hn4, hm4⟩
  have HN4 := Lib.hid hn4
  have M4 := Lib.hid hm4
  clear hm4 hn4
  go_wp2
  go_ret
  exact ⟨_, _, _, rfl, HN4.out, M4.out.sub (by simp) (List.Sublist.refl _)⟩
end Go.Proofs.Ytnopmdhjamkoaaa
