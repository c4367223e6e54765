/- Package token: what Issue tells; the document's answer: Secret, Prove, Mask. -/
import Derived.Test.YtghcdffpplimoaaTk5
import Derived.Test.YtghcdffpplimoaaRf7
namespace Go.Proofs.Ytghcdffpplimoaa
set_option linter.unusedVariables false
set_option linter.unusedSimpArgs false
open Go.RowKit

theorem y36_len0 : (List.replicate 32 (0 : UInt8)).length = 32 := by simp
/-- What is right is issued. -/
theorem issue_ok (W w : World) (bl : Bl) (ow : List Ro) (g gk : Nat) (kb : List UInt8) (hkl : kb.length ≤ 1000) (cs : List C4) (hM : MtX W bl ow g gk kb cs w) (hcs : cs.length < 256) (id ex : Int) (l : List Int) (Ar : Option Addr) (cr : Nat) (hl : Rd w w.heap.size 1 Ar l.length (l.map (.int .i64))) (hn : l.length ≤ 1000000) (hro : rolesOk l = true)
    (hok : clOk id (maskN l : Nat) ex ((cs.length : Int) + 1)) :
    Calls Try.prog 38 #[.pointer (some ⟨g, 0, none⟩), .int .i64 id, .int .i64 ex, .slice Ar l.length cr] w fun e w' => e = .returned (.tuple #[.agg (tkc id (maskN l : Nat) ex ((cs.length : Int) + 1) (secB kb id (maskN l : Nat) ex ((cs.length : Int) + 1))), .int .i64 0]) ∧ MtX W bl ow g gk kb (cs ++ [(id, (maskN l : Int), ex, (cs.length : Int) + 1)]) w' := by
  have := issue_mk W w bl ow g gk kb cs hM hcs id ex l Ar cr hl hn hro id (maskN l : Nat) ex ((cs.length : Int) + 1) (secB kb id (maskN l : Nat) ex ((cs.length : Int) + 1)) rfl 0 _ (.inr ⟨rfl, rfl, rfl⟩) fun w' hk => make_ok w' gk kb hk hkl _ _ _ _ hok
  rw [if_pos rfl] at this
  exact this
theorem issue_bad (W w : World) (bl : Bl) (ow : List Ro) (g gk : Nat) (kb : List UInt8) (cs : List C4) (hM : MtX W bl ow g gk kb cs w) (hcs : cs.length < 256) (id ex : Int) (l : List Int) (Ar : Option Addr) (cr : Nat) (hl : Rd w w.heap.size 1 Ar l.length (l.map (.int .i64))) (hn : l.length ≤ 1000000)
    (hok : ¬ (rolesOk l = true ∧ clOk id (maskN l : Nat) ex ((cs.length : Int) + 1))) :
    Calls Try.prog 38 #[.pointer (some ⟨g, 0, none⟩), .int .i64 id, .int .i64 ex, .slice Ar l.length cr] w fun e w' => e = .returned (.tuple #[.agg Y36, .int .i64 10]) ∧ MtX W bl ow g gk kb cs w' := by
  cases hro : rolesOk l
  · exact issue_role W w bl ow g gk kb cs hM id ex l Ar cr hl hn hro
  · have := issue_mk W w bl ow g gk kb cs hM hcs id ex l Ar cr hl hn hro 0 0 0 0 (List.replicate 32 0) y36_len0 10 Y36 (.inl ⟨rfl, rfl⟩) fun w' hk => make_bad w' gk _ _ _ _ fun h => hok ⟨hro, h⟩
    rw [if_neg (by decide)] at this
    exact this
theorem to05_any (i r x s : Int) (w : World) : Calls Try.prog 28 #[.agg #[.int .i64 i, .int .i64 r, .int .i64 x, .int .i64 s]] w fun e w' => e = .returned (.agg #[.int .i64 i, .int .i64 r, .int .i64 x, .int .i64 s]) ∧ Below w.heap.size w w' := by
  go_enter Try.func28, Try.ntmps28
  go_wp2
  exact bodyPost_ret (v := .agg #[.int .i64 i, .int .i64 r, .int .i64 x, .int .i64 s]) (by simp [results, Try.results28, go_sem]) rfl ⟨rfl, ((Below.refl _ _).alloc (Nat.le_refl _) _).alloc (by simp) _⟩

set_option maxRecDepth 100000 in
set_option maxHeartbeats 1000000 in
theorem refprove_any (KT : Array Value) (hKT : RSum KT) (w : World) (A : Option Addr) (c : Nat) (key : List UInt8) (hr : RB w w.heap.size A key) (hk : key.length ≤ 1000) (A1 : Option Addr) (c1 : Nat) (ps : List Pt) (hp : Pts w A1 ps) (hn : ps.length ≤ 90) (hl : ∀ p ∈ ps, p.l.length ≤ 1000) :
    Calls Try.prog 33 #[.agg KT, .slice A key.length c, .slice A1 ps.length c1] w fun e w' => e = .returned (.agg (b8a (prvB key (ps.map Pt.l)))) ∧ Below w.heap.size w w' := by
  obtain ⟨T, hT⟩ : ∃ T, prvB key (ps.map Pt.l) = T := ⟨_, rfl⟩
  have hTl : T.length = 32 := by rw [← hT]; rfl
  have m1 := ((Mst.start w).new 61 KT).new 27 Y32
  rw [show (w.alloc (.cells KT 61)).heap.size = w.heap.size + 1 by simp] at m1
  have HD := Lib.hid (show ∀ w', Below w.heap.size w w' → Calls Try.prog 81 #[.agg KT, .slice A key.length c, .string proofS, .slice A1 ps.length c1] w' fun e w2 => e = .returned (.agg (b8a T)) ∧ Below w'.heap.size w' w2 from fun w' hb => by
    have := refderive_any KT hKT w' A c key (RB.keep hr hb) (by omega) proofS (by decide) A1 c1 ps (hp.stay hb) hn hl
    rw [← hT]
    exact this)
  obtain ⟨n, hN⟩ : ∃ n, ps.length = n := ⟨_, rfl⟩
  obtain ⟨m, hM⟩ : ∃ n, key.length = n := ⟨_, rfl⟩
  rw [hT]
  simp only [hN, hM] at HD ⊢
  have M1 := Lib.hid m1
  have TL := Lib.hid hTl
  have k0 := (M1.out.blk [_]).rangeL
  have hki := hKT.infL
  clear hr hk hp hn hl hT hTl hN hM m1
  go_enter Try.func33, Try.ntmps33
  go_wp2_with (first | refine wpList_load_mid rfl _ _ rfl w.heap.size 0 rfl KT.toList _ k0 Try.underlying61 rfl hki ?_)
  refine (HD.out _ M1.out.bel).mono ?_
  rintro e w1 ⟨rfl, hb⟩
  have Mq := Lib.hid (M1.out.below hb)
  clear hb
  go_wp2_with (first | refine wpList_store_row rfl _ _ _ rfl (w.heap.size + 1) (b8a T) rfl rfl 27 _ (Mq.out.blk []) (info_k TL.out) (y32_k TL.out) (b8a_one T) ?_)
  exact bodyPost_ret (results_cell_row rfl _ _ (w.heap.size + 1) 27 _ (0, 0) _ rfl (setRow_heap _ _ _ _ _ _ (Mq.out.blk [])) Try.underlying27 rfl (info_k TL.out)) rfl ⟨rfl, (Mst.setRow (bl := []) [] Mq.out (b8a T)).bel⟩

set_option maxRecDepth 100000 in
set_option maxHeartbeats 1000000 in
theorem refsec_any (KT : Array Value) (hKT : RSum KT) (w : World) (A : Option Addr) (c : Nat) (key : List UInt8) (hr : RB w w.heap.size A key) (hk : key.length ≤ 1000) (i r x s : Int) (hcl : clOk i r x s) :
    Calls Try.prog 32 #[.agg KT, .slice A key.length c, .agg #[.int .i64 i, .int .i64 r, .int .i64 x, .int .i64 s]] w fun e w' => e = .returned (.agg (b8a (secB key i r x s))) ∧ Below w.heap.size w w' := by
  obtain ⟨T, hT⟩ : ∃ T, secB key i r x s = T := ⟨_, rfl⟩
  have hTl : T.length = 32 := by rw [← hT]; rfl
  obtain ⟨B, hB⟩ : ∃ B, clB i r x s = B := ⟨_, rfl⟩
  have hBl : B.length = 9 := by rw [← hB]; exact clB_length _ _ _ _
  have m1 := (((Mst.start w).new 61 KT).new 23 #[.int .i64 i, .int .i64 r, .int .i64 x, .int .i64 s]).new 27 Y32
  rw [show ((w.alloc (.cells KT 61)).alloc (.cells #[.int .i64 i, .int .i64 r, .int .i64 x, .int .i64 s] 23)).heap.size = w.heap.size + 1 + 1 by simp, show (w.alloc (.cells KT 61)).heap.size = w.heap.size + 1 by simp] at m1
  have HD := Lib.hid (show ∀ w' A1 A2 c1 c2, Below w.heap.size w w' → Pts w' A2 [⟨A1, c1, B⟩] → Calls Try.prog 81 #[.agg KT, .slice A key.length c, .string tokenS, .slice A2 1 c2] w' fun e w2 => e = .returned (.agg (b8a T)) ∧ Below w'.heap.size w' w2 from fun w' A1 A2 c1 c2 hb hp => by
    have := refderive_any KT hKT w' A c key (RB.keep hr hb) (by omega) tokenS (by decide) A2 c2 _ hp (by simp) (by intro p hp; obtain rfl : p = ⟨A1, c1, B⟩ := (by simpa using hp); show B.length ≤ _; omega)
    rw [show [(⟨A1, c1, B⟩ : Pt)].map Pt.l = [B] from rfl, ← hB] at this
    rw [← hT]
    exact this)
  have HRB := Lib.hid (fun w' => refbytes_any i r x s w' hcl)
  obtain ⟨m, hM⟩ : ∃ n, key.length = n := ⟨_, rfl⟩
  rw [hT]
  simp only [hM] at HD ⊢
  have M1 := Lib.hid m1
  have TL := Lib.hid hTl
  have HBE := Lib.hid hB
  have HBL := Lib.hid hBl
  have hki := hKT.infL
  have hu : ∃ d, Try.prog.underlying 61 = some d ∧ d.isRow = true := ⟨_, Try.underlying61, rfl⟩
  obtain ⟨d, hu, hd⟩ := hu
  have HCL := Lib.hid (show ∀ w' ys ow, Mst w w' [(w.heap.size + 1 + 1, 27, ys), (w.heap.size + 1, 23, #[.int .i64 i, .int .i64 r, .int .i64 x, .int .i64 s]), (w.heap.size, 61, KT)] ow → w'.rangeAt w.heap.size 0 KT.toList ∧ w'.cell? ⟨w.heap.size + 1, 0, none⟩ = some (.int .i64 i) ∧ w'.cell? ⟨w.heap.size + 1, 1, none⟩ = some (.int .i64 r) ∧ w'.cell? ⟨w.heap.size + 1, 2, none⟩ = some (.int .i64 x) ∧ w'.cell? ⟨w.heap.size + 1, 3, none⟩ = some (.int .i64 s) from
    fun w' ys ow h => ⟨(h.blk [_, _]).rangeL, (h.blk [_]).cell 0, (h.blk [_]).cell 1, (h.blk [_]).cell 2, (h.blk [_]).cell 3⟩)
  have K0 := Lib.hid (HCL.out _ _ _ M1.out.drew)
  clear hr hk hT hTl hM m1 hB hBl hcl
  go_enter Try.func32, Try.ntmps32
  go_upto_region 1 with fail
  refine wp_region_held_drew (S := fun w' => w'.rangeAt w.heap.size 0 KT.toList ∧ w'.cell? ⟨w.heap.size + 1, 0, none⟩ = some (.int .i64 i) ∧ w'.cell? ⟨w.heap.size + 1, 1, none⟩ = some (.int .i64 r) ∧ w'.cell? ⟨w.heap.size + 1, 2, none⟩ = some (.int .i64 x) ∧ w'.cell? ⟨w.heap.size + 1, 3, none⟩ = some (.int .i64 s)) (by kernel_rfl) ?_ (fun hHeld => ?_)
  · exact K0.out
  generalize hw7 : World.drew _ = w7 at hHeld ⊢
  have Mq := Lib.hid (show Mst w w7 _ _ from hw7 ▸ M1.out.drew)
  clear hw7
  refine wpAnyH_take (i := 0) rfl (by kernel_rfl) (by kernel_rfl) (by kernel_rfl) (fun _ _ _ h => h) (yieldsIf_load_mid (by rfl) _ _ rfl _ _ rfl _ _ (fun w hw => hw.1) hu hd hki) (by assumption) ?_
  change wpAnyH _ _ _ _ _ _ _ (Act.put _ (some 7) _) _
  simp only [Act.put, List.setIfInBounds_toArray, List.set_cons_zero, List.set_cons_succ, Array.toArray_toList]
  refine wpAnyH_take (i := 1) (v := ?_) rfl (by kernel_rfl) (by kernel_rfl) (by kernel_rfl) (fun _ _ _ h => h) (Or.inl ⟨by rfl, ?_⟩) (by assumption) ?_
  rotate_left
  · intro w hSw; (try dsimp only at hSw); go_split_ands; go_simp; with_reducible rfl
  change wpAnyH _ _ _ _ _ _ _ (Act.put _ (some 8) _) _
  simp only [Act.put, List.setIfInBounds_toArray, List.set_cons_zero, List.set_cons_succ, Array.toArray_toList]
  refine wpAnyH_take (i := 2) (v := ?_) rfl (by kernel_rfl) (by kernel_rfl) (by kernel_rfl) (fun _ _ _ h => h) (Or.inl ⟨by rfl, ?_⟩) (by assumption) ?_
  rotate_left
  · intro w hSw; (try dsimp only at hSw); go_split_ands; go_simp; with_reducible rfl
  change wpAnyH _ _ _ _ _ _ _ (Act.put _ (some 9) _) _
  simp only [Act.put, List.setIfInBounds_toArray, List.set_cons_zero, List.set_cons_succ, Array.toArray_toList]
  refine wpAnyH_ready (rs := [3]) (by kernel_rfl) (by simp) ?_
  refine (AllReadyH.cons rfl (fun K hK => ?_) AllReadyH.nil)
  go_simp
  (with_reducible refine (HRB.out _).mono ?_); rintro e wq ⟨v, rfl, hf⟩; rw [HBE.out] at hf; obtain ⟨A1, c1, rfl, -, -, -, -⟩ := own_form hf.own; have Mq := Lib.hid (Mq.out.addr hf); clear hf
  go_wp2_with fail
  refine hK.out _ _ (by exact HCL.out _ _ _ Mq.out) (fun hHeld => ?_)
  clear hK K
  refine wpAnyH_ready (rs := [4]) (by kernel_rfl) (by simp) ?_
  refine (AllReadyH.cons rfl (fun K hK => ?_) AllReadyH.nil)
  go_simp; generalize hwq : World.alloc _ _ = wq; obtain ⟨g20, y20, hg20, mq, hp⟩ := Mq.out.ptsX [⟨A1, c1, B⟩] (by intro q hq; obtain rfl : q = ⟨A1, c1, B⟩ := (by simpa using hq); show Src _ _ _ 1 A1 B.length (by8 B); rw [HBL.out]; exact Mq.out.rowSrc (List.mem_cons_self ..)) (by simp only [List.map_cons, List.map_nil, Pt.v, HBL.out]) (by simp) hwq; rw [hg20]; have Mq := Lib.hid mq; have HP := Lib.hid hp; clear hwq hg20 mq hp
  refine hK.out _ _ (by exact HCL.out _ _ _ Mq.out) (fun hHeld => ?_)
  clear hK K
  refine wpAnyH_ready (rs := [5]) (by kernel_rfl) (by simp) ?_
  refine (AllReadyH.cons rfl (fun K hK => ?_) AllReadyH.nil)
  go_simp
  (with_reducible refine (HD.out _ _ _ _ _ Mq.out.bel HP.out).mono ?_); rintro e wq ⟨rfl, hb⟩; have Mq := Lib.hid (Mq.out.below hb); clear hb
  go_wp2_with fail
  refine hK.out _ _ (by exact HCL.out _ _ _ Mq.out) (fun hHeld => ?_)
  clear hK K
  refine wpAnyH_ready (rs := [6]) (by kernel_rfl) (by simp) ?_
  refine (AllReadyH.cons rfl (fun K hK => ?_) AllReadyH.nil)
  refine step_store_row rfl _ _ _ rfl (w.heap.size + 1 + 1) (b8a T) rfl rfl 27 _ (Mq.out.blk []) (info_k TL.out) (y32_k TL.out) (b8a_one T) ?_; have Mq := Lib.hid (Mst.setRow (bl := []) [] Mq.out (b8a T))
  refine hK.out _ _ (by exact HCL.out _ _ _ Mq.out) (fun hHeld => ?_)
  clear hK K
  refine wpAnyH_done (by kernel_rfl) ?_ _
  go_wp2
  exact bodyPost_ret (results_cell_row rfl _ _ (w.heap.size + 1 + 1) 27 _ (0, 0) _ rfl (Mq.out.blk []) Try.underlying27 rfl (info_k TL.out)) rfl ⟨rfl, Mq.out.bel⟩

theorem bit_step (m r : Nat) : m / 2 ^ r = 2 * (m / 2 ^ (r + 1)) + (if m.testBit r then 1 else 0) := by
  have h1 : m / 2 ^ (r + 1) = m / 2 ^ r / 2 := by rw [Nat.pow_succ, Nat.div_div_eq_div_mul]
  have h2 : (m / 2 ^ r) % 2 = if m.testBit r then 1 else 0 := by
    rw [Nat.testBit_eq_decide_div_mod_eq]
    have : (m / 2 ^ r) % 2 < 2 := Nat.mod_lt _ (by decide)
    by_cases h : m / 2 ^ r % 2 = 1
    · simp [h]
    · simp [h]; omega
  rw [h1, ← h2]
  omega
set_option maxRecDepth 100000 in
set_option maxHeartbeats 2000000 in
theorem refmask_any (l : List Int) (A : Option Addr) (c : Nat) (w : World) (hl : Rd w w.heap.size 1 A l.length (l.map (.int .i64))) (hn : l.length ≤ 1000) :
    Calls Try.prog 37 #[.slice A l.length c] w fun e w' => e = .returned (.int .i64 (mskI l)) ∧ w = w' := by
  obtain ⟨n, hN⟩ : ∃ n, l.length = n := ⟨_, rfl⟩
  have HL := Lib.hid hl
  have HN := Lib.hid hN
  rw [hN] at hn ⊢
  cases hro : rolesOk l
  case true =>
    have HM := Lib.hid (show mskI l = (maskN l : Int) by unfold mskI; rw [hro, if_pos rfl])
    have hro2 := (rolesOk_iff l).1 hro
    have HRO := Lib.hid hro2
    have HLT := Lib.hid (maskN_lt l hro2)
    have HBT := Lib.hid (fun r => bit_step (maskN l) r)
    have HBI := Lib.hid (maskN_bit l fun r hr => (hro2 r hr).1)
    obtain ⟨m, hm⟩ : ∃ m, maskN l = m := ⟨_, rfl⟩
    rw [hm] at HM HLT HBT HBI
    clear hro hro2 hl hN hm
    go_enter Try.func37, Try.ntmps37
    go_wp2_with fail
    go_loopg [3, 4, 5, 6] 8 (fun gg s3 s4 s5 s6 wr => ∃ k : Nat, k + gg = 8 ∧ s4 = .int .i64 ((7 : Int) - k) ∧ s3 = .int .i64 (m / 2 ^ (8 - k) : Nat) ∧ w = wr)
    case atStart => exact ⟨0, by omega, rfl, by rw [show m / 2 ^ (8 - 0) = 0 from Nat.div_eq_of_lt HLT.out]; rfl, rfl⟩
    case round =>
      obtain ⟨k, hk, rfl, rfl, rfl⟩ := hrel
      by_cases hlt : k < 8
      · obtain ⟨D, hD⟩ : ∃ D, m / 2 ^ (8 - k) = D := ⟨_, rfl⟩
        have hDl : D ≤ 256 := by
          have h1 := HLT.out
          have h2 := Nat.div_le_self m (2 ^ (8 - k))
          omega
        rw [hD]
        have HD := Lib.hid hD
        have i1 : (0 : Int) ≤ (7 : Int) - k := by omega
        have i2 : (k : Int) ≤ 7 := by omega
        have i3 : (0 : Int) ≤ k := by omega
        have i4 : (0 : Int) ≤ D := by omega
        have i5 : (D : Int) ≤ 256 := by omega
        clear hD
        have hkn : (7 : Int) - k = ((7 - k : Nat) : Int) := by omega
        have HKN := Lib.hid hkn
        clear hkn
        go_wp2_with fail
        go_loopg [5, 6] n (fun g2 s5 s6 wr => ∃ (j : Nat) (v : Int), j + g2 = n ∧ s6 = .int .i64 j ∧ s5 = .int .i64 v ∧ Hid (v = if ((7 : Int) - k) ∈ l.take j then 1 else 0) ∧ 0 ≤ v ∧ v ≤ 1 ∧ w = wr)
        case atStart => exact ⟨0, 0, by omega, rfl, rfl, Lib.hid (by simp), by omega, by omega, rfl⟩
        case round =>
          obtain ⟨j, v, hj, rfl, rfl, hv, hv0, hv1, rfl⟩ := hrel
          by_cases hjn : j < n
          · obtain ⟨z, hz⟩ : ∃ z, l[j]? = some z := ⟨_, List.getElem?_eq_getElem (by rw [HN.out]; exact hjn)⟩
            obtain ⟨b, o, rfl, hb, hc⟩ := HL.out.2 (by rw [HN.out]; omega)
            have d0 := hc j (.int .i64 z) (by simp [hz])
            have hzr := HRO.out z (List.mem_of_getElem? hz)
            have j1 : ¬ z < 0 := by omega
            have j2 : ¬ 7 < z := by omega
            have j3 : (j : Int) < n := by omega
            have j4 : (0 : Int) ≤ j := by omega
            have HTJ := Lib.hid (show l.take (j + 1) = l.take j ++ [z] by rw [List.take_add_one, hz]; rfl)
            clear hc hz hzr hb
            by_cases hzk : z = (7 : Int) - k
            · have HZK := Lib.hid hzk
              have j5 : (z == (7 : Int) - k) = true := by simpa using hzk
              clear hzk
              go_wp2_with fail
              go_roundg (n - (j + 1))
              case measure => exact meas hj hjn
              case rel => exact ⟨j + 1, 1, meas2 hjn, by go_num, rfl, Lib.hid (by rw [HTJ.out, if_pos]; simp [HZK.out]), by omega, by omega, rfl⟩
            · have HZK := Lib.hid hzk
              have j5 : (z == (7 : Int) - k) = false := by simpa using hzk
              clear hzk
              go_wp2_with fail
              go_roundg (n - (j + 1))
              case measure => exact meas hj hjn
              case rel => exact ⟨j + 1, v, meas2 hjn, by go_num, rfl, Lib.hid (by
                rw [HTJ.out, hv.out]
                have : ((7 : Int) - k ∈ l.take j ++ [z]) ↔ ((7 : Int) - k ∈ l.take j) := by
                  simp only [List.mem_append, List.mem_singleton]
                  exact ⟨fun h => h.elim id (fun h => absurd h.symm HZK.out), .inl⟩
                simp only [this]), hv0, hv1, rfl⟩
          · obtain rfl : j = n := by omega
            have HV := Lib.hid (show v = if m.testBit (7 - k) then 1 else 0 by
              rw [hv.out, List.take_of_length_le (by rw [HN.out]; exact Nat.le_refl _), HKN.out]
              by_cases h : m.testBit (7 - k)
              · rw [if_pos ((HBI.out _).1 h), if_pos h]
              · rw [if_neg (fun h2 => h ((HBI.out _).2 h2)), if_neg h])
            clear hv hj
            go_wp2_with fail
            go_roundg (8 - (k + 1))
            case measure => exact meas hk hlt
            case rel => exact ⟨k + 1, meas2 hlt, by go_num, by
              have h1 := HBT.out (7 - k)
              rw [show 7 - k + 1 = 8 - k by omega, HD.out] at h1
              rw [show 8 - (k + 1) = 7 - k by omega, h1, HV.out]
              by_cases h : m.testBit (7 - k)
              · simp [h]
              · simp [h], rfl⟩
      · obtain rfl : k = 8 := by omega
        clear hk hlt
        go_wp2
        go_ret
        exact ⟨by rw [HM.out]; simp, rfl⟩
  case false =>
    have HM := Lib.hid (show mskI l = -1 by unfold mskI; rw [hro, if_neg (by decide)])
    have HRO := Lib.hid hro
    clear hro hl hN
    go_enter Try.func37, Try.ntmps37
    go_wp2_with fail
    go_loopg [3, 4, 5, 6] 1 (fun gg s3 s4 s5 s6 wr => gg = 1 ∧ s4 = .int .i64 7 ∧ s3 = .int .i64 0 ∧ w = wr)
    case atStart => exact ⟨rfl, rfl, rfl, rfl⟩
    case round =>
      obtain ⟨hg, rfl, rfl, rfl⟩ := hrel
      clear hg
      go_wp2_with fail
      go_loopg [5, 6] n (fun g2 s5 s6 wr => ∃ (j : Nat) (v : Int), j + g2 = n ∧ s6 = .int .i64 j ∧ s5 = .int .i64 v ∧ Hid (rolesOk (l.take j) = true) ∧ w = wr)
      case atStart => exact ⟨0, 0, by omega, rfl, rfl, Lib.hid rfl, rfl⟩
      case round =>
        obtain ⟨j, v, hj, rfl, rfl, hv, rfl⟩ := hrel
        by_cases hjn : j < n
        · obtain ⟨z, hz⟩ : ∃ z, l[j]? = some z := ⟨_, List.getElem?_eq_getElem (by rw [HN.out]; exact hjn)⟩
          obtain ⟨b, o, rfl, hb, hc⟩ := HL.out.2 (by rw [HN.out]; omega)
          have d0 := hc j (.int .i64 z) (by simp [hz])
          have j3 : (j : Int) < n := by omega
          have j4 : (0 : Int) ≤ j := by omega
          have HTJ := Lib.hid (show l.take (j + 1) = l.take j ++ [z] by rw [List.take_add_one, hz]; rfl)
          clear hc hz hb
          by_cases h0 : z < 0
          · clear hv
            go_wp2
            go_ret
            exact ⟨by rw [HM.out]; rfl, rfl⟩
          · by_cases h7 : 7 < z
            · clear hv
              go_wp2
              go_ret
              exact ⟨by rw [HM.out]; rfl, rfl⟩
            · have HV := Lib.hid (show rolesOk (l.take (j + 1)) = true by
                rw [rolesOk_iff, HTJ.out]
                intro y hy
                rcases List.mem_append.1 hy with hy | hy
                · exact (rolesOk_iff _).1 hv.out y hy
                · simp at hy; omega)
              clear hv
              cases hzk : (z == 7)
              all_goals (
                go_wp2_with fail
                go_roundg (n - (j + 1))
                case measure => exact meas hj hjn
                case rel => exact ⟨j + 1, _, meas2 hjn, by go_num, rfl, HV, rfl⟩)
        · exfalso
          have h1 := hv.out
          rw [List.take_of_length_le (by rw [HN.out]; omega), HRO.out] at h1
          cases h1
end Go.Proofs.Ytghcdffpplimoaa
