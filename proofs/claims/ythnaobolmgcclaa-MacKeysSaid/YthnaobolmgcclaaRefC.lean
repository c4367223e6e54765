/- Contracts of the document's digest: small, root. -/
import Derived.Test.YthnaobolmgcclaaRefB
import Derived.Test.YthnaobolmgcclaaRun1
import Derived.Deep.DeepCutAuto
namespace Go.Proofs.Ythnaobolmgcclaa
set_option linter.unusedVariables false
open Go.RowKit

section
variable {P : Program} {ops : Array Oper} {Q : Exit → Act → World → Prop} {a : Act} {w : World} {K : Act → World → Prop} {E : Prop}
/-- A whole row is loaded, in a region that draws its order. -/
theorem step_load_mid {op : Oper} (hgd : op.guard = none) (ty : TypeId) (x : Operand) (ho : op.op = .load ty x)
    (b o : Nat) (hx : a.eval x = .pointer (some ⟨b, o, none⟩)) (cs : List Value) (d : TypeDesc) (hc : w.rangeAt b o cs)
    (hu : P.underlying ty = some d) (hd : d.isRow = true) (hi : (P.info? ty).map (·.size) = some cs.length)
    (h : K (a.put op.dst (.agg cs.toArray)) w) : if Region.wanted op (yielded ops a.tmps) = true then Oper.wp P op a w K Q else E := by
  have hw : Region.wanted op (yielded ops a.tmps) = true := by simp [Region.wanted, hgd]
  rw [if_pos hw]
  exact wp_load_mid ty x ho b o hx cs d hc hu hd hi h
theorem step_store_row {o : Oper} (hgd : o.guard = none) (ty : TypeId) (x y : Operand) (ho : o.op = .store ty x y)
    (g : Nat) (cells : Array Value) (hx : a.eval x = .pointer (some ⟨g, 0, none⟩)) (hy : a.eval y = .agg cells)
    (t : TypeId) (old : Array Value) (hg : w.heap[g]? = some (.cells old t (0, 0))) (hi : (P.info? ty).map (·.size) = some cells.size)
    (hold : old.size = cells.size) (h1 : cells.all (·.oneCell') = true)
    (h : K (a.put o.dst undef) (w.setRow g cells)) : if Region.wanted o (yielded ops a.tmps) = true then Oper.wp P o a w K Q else E := by
  have hw : Region.wanted o (yielded ops a.tmps) = true := by simp [Region.wanted, hgd]
  rw [if_pos hw]
  exact wp_store_row ty x y ho g cells hx hy t old hg hi hold h1 h
end

theorem Us_info (z : List Nat) (hz : Lim z) : (Try.prog.info? 156).map (·.size) = some (Us z).size := by rw [Us_size, hz.len]; exact info12
theorem Us_infoL (z : List Nat) (hz : Lim z) : (Try.prog.info? 156).map (·.size) = some (Us z).toList.length := by rw [Array.length_toList]; exact Us_info z hz
theorem Us_same (z z' : List Nat) (hz : Lim z) (hz' : Lim z') : (Us z).size = (Us z').size := by rw [Us_size, Us_size, hz.len, hz'.len]
theorem Bk.rangeL {w : World} {g : Nat} {t : TypeId} {cs : Array Value} (h : Bk w g t cs) : w.rangeAt g 0 cs.toList := h.range fun j v hv => by
  rw [Nat.zero_add]
  simpa using hv
/-- The powers, by and by. -/
structure SmR (w wr : World) (B y i : Nat) (z : List Nat) : Prop where
  m : Mst w wr [(B, 156, Us z)] []
  lim : Lim z
  eq : val z = y ^ i
theorem pow_small {y i : Nat} (hy : y < 2 ^ 36) (hi : i ≤ 3) : y ^ i < 65536 ^ 12 := by
  have h1 : y ^ i ≤ (2 ^ 36) ^ i := Nat.pow_le_pow_left (by omega) _
  have h2 : (2 ^ 36) ^ i ≤ (2 ^ 36) ^ 3 := Nat.pow_le_pow_right (by decide) hi
  have h3 : (2 ^ 36) ^ 3 < 65536 ^ 12 := by decide
  omega
set_option maxRecDepth 100000 in
set_option maxHeartbeats 1000000 in
theorem small_any (y n p : Nat) (hy : y < 2 ^ 36) (hn : n = 2 ∨ n = 3) (hp : p < 65536) (w : World) :
    Calls Try.prog 95 #[.int .u64 (y : Int), .int .u64 (n : Int), .int .u64 (p : Int)] w fun e w' => e = .returned (.bool (smallB y n p)) ∧ Below w.heap.size w w' := by
  have HY := Lib.hid hy
  have HN := Lib.hid hn
  have HP := Lib.hid hp
  have hpa := Lib.hid (fun w => parts_any y (by omega) w)
  have HL := Lib.hid (partsL_lim y)
  obtain ⟨K1, hK1⟩ : ∃ K, Us (partsL y) = K := ⟨_, rfl⟩
  have hpa' := hpa.out
  rw [hK1] at hpa'
  have HPA := Lib.hid hpa'
  have HK1 := Lib.hid hK1
  have I1 := Lib.hid (show (Try.prog.info? 156).map (·.size) = some K1.size from hK1 ▸ Us_info _ HL.out)
  have S1 := Lib.hid (show Z12.size = K1.size from hK1 ▸ Us_same zero12 _ zero12_lim HL.out)
  have O1 := Lib.hid (show K1.all (·.oneCell') = true from hK1 ▸ Us_one _)
  have n0 : (2 : Int) ≤ n := by omega
  have n1 : (n : Int) ≤ 3 := by omega
  clear hpa hpa' hK1 hy hn hp
  go_enter Try.func95, Try.ntmps95
  go_wp2_with fail
  refine (HPA.out w).mono ?_
  rintro e w1 ⟨rfl, hb1⟩
  have m1 := ((Mst.start w).below hb1).new 156 Z12
  have B1 := Lib.hid (m1.blk [])
  have m2 := Mst.setRow (bl := []) [] m1 K1
  have T1 := Lib.hid (show SmR w _ w1.heap.size y 1 (partsL y) from ⟨by rw [HK1.out]; exact m2, HL.out, by rw [Nat.pow_one, partsL_val y (by have := HY.out; omega)]⟩)
  clear m1 m2
  go_upto_region 2 with (first | refine wpList_store_row rfl _ _ _ rfl w1.heap.size K1 rfl rfl 156 _ B1.out I1.out S1.out O1.out ?_)
  obtain ⟨B, hB⟩ : ∃ B, w1.heap.size = B := ⟨_, rfl⟩
  rw [hB] at T1 ⊢
  clear B1 hb1 hB
  go_wp2
  go_loopg [8] (n - 1) (fun gk s8 wr => ∃ i : Nat, ∃ z : List Nat, i + gk = n ∧ 1 ≤ i ∧ s8 = .int .u64 i ∧ SmR w wr B y i z)
  case atStart => exact ⟨1, _, by omega, Nat.le_refl _, rfl, T1.out⟩
  case round =>
    obtain ⟨i, z, hi, hi1, rfl, hm, hz, hv⟩ := hrel
    by_cases hlt : i < n
    · have L1 := Lib.hid ((hm.drew.blk []).rangeL)
      have HT := times_any z (partsL y) hz HL.out
      rw [HK1.out] at HT
      have HTT := Lib.hid HT
      have HI := Lib.hid (Us_infoL z hz)
      obtain ⟨Kz, hKz⟩ : ∃ K, Us z = K := ⟨_, rfl⟩
      have HM := Lib.hid hm
      have HZ := Lib.hid hz
      have HV := Lib.hid hv
      have E1 := Lib.hid (show (Us z).toList.toArray = Kz by simp [hKz])
      rw [hKz] at HTT L1 HI E1
      have HKz := Lib.hid hKz
      clear hm hz hv HT hKz
      go_wp2
      refine wp_region_any (by kernel_rfl) ?_
      try (change wpAny _ _ _ _ _ _ _ (World.drew _))
      refine wpAny_take (i := 1) (v := ?_) rfl (by kernel_rfl) (by kernel_rfl) (by kernel_rfl) (fun _ _ _ h => h) (Or.inl ⟨by rfl, ?_⟩) ?_
      rotate_left
      · intro w
        go_simp
        with_reducible rfl
      refine wpAny_ready (rs := [0, 2]) (by kernel_rfl) (by simp) ?_
      refine AllReady.cons rfl (fun K hK => ?_) (AllReady.cons rfl (fun K hK => ?_) AllReady.nil)
      · refine step_load_mid rfl _ _ rfl B 0 rfl Kz.toList _ L1.out Try.underlying156 rfl HI.out ?_
        refine hK _ _ ?_
        clear hK K
        refine wpAny_ready (rs := [2]) (by kernel_rfl) (by simp) ?_
        refine AllReady.cons rfl (fun K hK => ?_) AllReady.nil
        go_simp
        refine (HPA.out _).mono ?_
        rintro e w3 ⟨rfl, hb3⟩
        have M3 := Lib.hid (HM.out.drew.below hb3)
        clear hb3
        go_wp2_with fail
        refine wpAny_ready (rs := [3]) (by kernel_rfl) (by simp) ?_
        refine AllReady.cons rfl (fun K hK => ?_) AllReady.nil
        go_simp
        refine (HTT.out _).mono ?_
        rintro e w4 ⟨z', rfl, ho4, hb4⟩
        have M4 := Lib.hid (M3.out.below hb4)
        have HO4 := Lib.hid ho4
        clear hb4 ho4
        go_wp2_with fail
        refine wpAny_ready (rs := [4]) (by kernel_rfl) (by simp) ?_
        refine AllReady.cons rfl (fun K hK => ?_) AllReady.nil
        refine step_store_row rfl _ _ _ rfl B (Us z') rfl rfl 156 _ (M4.out.blk []) (Us_info _ HO4.out.lim) (Us_same _ _ HZ.out HO4.out.lim) (Us_one z') ?_
        refine hK _ _ ?_
        clear hK K
        refine wpAny_done (by kernel_rfl) ?_ _
        go_wp2
        go_roundg (n - (i + 1))
        case measure => omega
        case rel => exact ⟨i + 1, z', by omega, by omega, by go_num, ⟨Mst.setRow (bl := []) [] M4.out _, HO4.out.lim, by
          have h1 := pow_small HY.out (show i + 1 ≤ 3 by omega)
          have h2 := partsL_val y (by have := HY.out; omega)
          rw [HO4.out.done HZ.out.len (by rw [HV.out, h2, ← Nat.pow_succ]; exact h1), HV.out, h2, Nat.pow_succ]⟩⟩
      · go_simp
        refine (HPA.out _).mono ?_
        rintro e w3 ⟨rfl, hb3⟩
        have M3 := Lib.hid (HM.out.drew.below hb3)
        have L3 := (M3.out.blk []).rangeL
        rw [HKz.out] at L3
        have L3' := Lib.hid L3
        clear hb3 L3
        go_wp2_with fail
        refine wpAny_ready (rs := [0]) (by kernel_rfl) (by simp) ?_
        refine AllReady.cons rfl (fun K hK => ?_) AllReady.nil
        refine step_load_mid rfl _ _ rfl B 0 rfl Kz.toList _ L3'.out Try.underlying156 rfl HI.out ?_
        refine hK _ _ ?_
        clear hK K
        refine wpAny_ready (rs := [3]) (by kernel_rfl) (by simp) ?_
        refine AllReady.cons rfl (fun K hK => ?_) AllReady.nil
        go_simp
        refine (HTT.out _).mono ?_
        rintro e w4 ⟨z', rfl, ho4, hb4⟩
        have M4 := Lib.hid (M3.out.below hb4)
        have HO4 := Lib.hid ho4
        clear hb4 ho4
        go_wp2_with fail
        refine wpAny_ready (rs := [4]) (by kernel_rfl) (by simp) ?_
        refine AllReady.cons rfl (fun K hK => ?_) AllReady.nil
        refine step_store_row rfl _ _ _ rfl B (Us z') rfl rfl 156 _ (M4.out.blk []) (Us_info _ HO4.out.lim) (Us_same _ _ HZ.out HO4.out.lim) (Us_one z') ?_
        refine hK _ _ ?_
        clear hK K
        refine wpAny_done (by kernel_rfl) ?_ _
        go_wp2
        go_roundg (n - (i + 1))
        case measure => omega
        case rel => exact ⟨i + 1, z', by omega, by omega, by go_num, ⟨Mst.setRow (bl := []) [] M4.out _, HO4.out.lim, by
          have h1 := pow_small HY.out (show i + 1 ≤ 3 by omega)
          have h2 := partsL_val y (by have := HY.out; omega)
          rw [HO4.out.done HZ.out.len (by rw [HV.out, h2, ← Nat.pow_succ]; exact h1), HV.out, h2, Nat.pow_succ]⟩⟩
    · obtain rfl : i = n := by omega
      have i6 : (2 : Int) * i < 12 := by omega
      have i7 : (0 : Int) ≤ (2 : Int) * i := by omega
      have i8 : 2 * i < 12 := by omega
      have HM := Lib.hid hm
      have HZ := Lib.hid hz
      have HV := Lib.hid hv
      clear hm hz hv hlt hi
      obtain ⟨t, ht⟩ : ∃ t, zero12.set (2 * i) p = t := ⟨_, rfl⟩
      have htl : Lim t := ht ▸ zero12_lim.set _ HP.out
      have htv : val t = p * 65536 ^ (2 * i) := by
        have h0 : zero12[2 * i]? = some 0 := by
          rcases HN.out with rfl | rfl <;> rfl
        have := val_set h0 p
        rw [ht, zero12_val] at this
        omega
      have e0 : ([Value.int .u64 0, Value.int .u64 0, Value.int .u64 0, Value.int .u64 0, Value.int .u64 0, Value.int .u64 0, Value.int .u64 0, Value.int .u64 0, Value.int .u64 0, Value.int .u64 0, Value.int .u64 0, Value.int .u64 0].set (2 * i) (.int .u64 (p : Int))).toArray = Us t := by
        rw [← ht]
        unfold Us
        rw [List.map_set]
        rfl
      have m1 : ∀ Z, Z = Us t → Mst w (wr.alloc (.cells Z 156)) [(wr.heap.size, 156, Us t), (B, 156, Us z)] [] := by
        rintro _ rfl
        exact HM.out.new _ _
      have M1 := Lib.hid (m1 _ e0)
      have HTL := Lib.hid htl
      have HTV := Lib.hid htv
      have HBW := Lib.hid (show B < wr.heap.size from (HM.out.blk []).lt)
      clear m1 e0 htl htv ht
      go_wp2
      go_loopg [10] 12 (fun gk s10 wq => ∃ k : Nat, k + gk = 12 ∧ s10 = .int .i64 (11 - (k : Int)) ∧ Mst w wq [(wr.heap.size, 156, Us t), (B, 156, Us z)] [] ∧ z.drop (12 - k) = t.drop (12 - k))
      case atStart => exact ⟨0, by omega, rfl, M1.out, by rw [List.drop_of_length_le (by rw [HZ.out.len]; omega), List.drop_of_length_le (by rw [HTL.out.len]; omega)]⟩
      case round =>
        obtain ⟨k, hk, rfl, hm, hd⟩ := hrel
        by_cases hlt : k < 12
        · obtain ⟨x, hx, hx2⟩ := HZ.out.at_ (show 11 - k < 12 by omega)
          obtain ⟨u, hu, hu2⟩ := HTL.out.at_ (show 11 - k < 12 by omega)
          have cz := ((hm.blk [_]).cell (11 - k)).trans (Us_get hx)
          have ct := ((hm.blk []).cell (11 - k)).trans (Us_get hu)
          rw [show 12 - k = (11 - k) + 1 by omega] at hd
          have HM2 := Lib.hid hm
          have HX := Lib.hid hx
          have HU := Lib.hid hu
          have HD := Lib.hid hd
          have v1 : (0 : Int) ≤ 11 - (k : Int) := by omega
          have v2 : (11 : Int) - (k : Int) < 12 := by omega
          have v3 : ((11 : Int) - (k : Int)).toNat = 11 - k := by omega
          clear hm hd hx hu
          rcases Nat.lt_trichotomy x u with hxu | hxu | hxu
          · have hne : ((x : Int) != u) = true := by simp; omega
            have hlt2 : decide (x < u) = true := by simpa using hxu
            have hR := Lib.hid (show smallB y i p = true by
              have := cmp_lt HZ.out HTL.out (by omega) HD.out HX.out HU.out hxu
              rw [HV.out, HTV.out] at this
              exact decide_eq_true (by omega))
            clear hxu
            go_wp2
            go_quiet (fail)
            go_wp2
            go_quiet (fail)
            go_wp2
            go_ret
            exact ⟨by rw [hR.out]; rfl, ((HM2.out.drewN _).drewN _).bel⟩
          · subst hxu
            have hne : ((x : Int) != x) = false := by simp
            clear v1 v2 v3
            have v1 : (0 : Int) ≤ 11 - (k : Int) := by omega
            have v2 : (11 : Int) - (k : Int) < 12 := by omega
            have v3 : ((11 : Int) - (k : Int)).toNat = 11 - k := by omega
            have HE := Lib.hid (drop_eq HX.out HU.out HD.out)
            go_wp2
            go_quiet (fail)
            go_wp2
            clear v3 hne
            go_roundg (12 - (k + 1))
            case measure => exact meas hk hlt
            case rel => exact ⟨k + 1, meas2 hlt, by go_num, HM2.out.drewN _, by rw [show 12 - (k + 1) = 11 - k by omega]; exact HE.out⟩
          · have hne : ((x : Int) != u) = true := by simp; omega
            have hlt2 : decide (x < u) = false := by simpa using Nat.le_of_lt hxu
            have hR := Lib.hid (show smallB y i p = false by
              have := cmp_lt HTL.out HZ.out (by omega) HD.out.symm HU.out HX.out hxu
              rw [HV.out, HTV.out] at this
              exact decide_eq_false (by omega))
            clear hxu
            go_wp2
            go_quiet (fail)
            go_wp2
            go_quiet (fail)
            go_wp2
            go_ret
            exact ⟨by rw [hR.out]; rfl, ((HM2.out.drewN _).drewN _).bel⟩
        · obtain rfl : k = 12 := by omega
          have hR := Lib.hid (show smallB y i p = true by
            have e : z = t := hd
            have h1 := HV.out
            rw [e, HTV.out] at h1
            exact decide_eq_true (by omega))
          have HM2 := Lib.hid hm
          clear hm hd hlt hk
          go_wp2
          go_ret
          exact ⟨by rw [hR.out]; rfl, HM2.out.bel⟩
end Go.Proofs.Ythnaobolmgcclaa
