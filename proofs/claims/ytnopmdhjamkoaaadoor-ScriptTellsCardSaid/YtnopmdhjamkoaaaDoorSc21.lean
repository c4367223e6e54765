/- The document's Text of a step. -/
import Derived.Test.YtnopmdhjamkoaaaDoorSc20
namespace Go.Proofs.YtnopmdhjamkoaaaDoor
set_option linter.unusedVariables false
set_option linter.unusedSimpArgs false
open Go.RowKit
section
variable {P : Program} {w : World} {ops : Array Oper} {rest : List Oper} {o : Oper} {a : Act} {Q : Exit → Act → World → Prop} {K : Act → World → Prop} {E : Prop}
theorem step_valS (hw : Region.wanted o (yielded ops a.tmps) = true) (v : Value) (hx : (execOp a.eval o).run P w = .ok (.value v) w) (h : K (a.put o.dst v) w) : if Region.wanted o (yielded ops a.tmps) = true then Oper.wp P o a w K Q else E := by
  rw [if_pos hw]
  unfold Oper.wp
  rw [hx]
  exact h
theorem step_convS (hg : o.guard = none) (src dst : TypeId) (x : Operand) (ho : o.op = .convert src dst x) (v r : Value) (hx : a.eval x = v) (hr : (convert src dst v).run P w = .ok r w) (h : K (a.put o.dst r) w) : if Region.wanted o (yielded ops a.tmps) = true then Oper.wp P o a w K Q else E :=
  step_valS (by simp [Region.wanted, hg]) r (by simp only [execOp, ho, hx, Sem.run_bind, hr, Result.andThen_ok, Sem.run_pure]) h
end
theorem conv2 {w w2 : World} {g : Nat} (b d : UInt8) (h : Bk w g 5 #[.int .u8 (b.toNat : Int), .int .u8 (d.toNat : Int)]) : (convert 60 9 (.slice (some ⟨g, 0, none⟩) 2 2)).run Tryd.prog w = .ok (.string ⟨#[b, d]⟩) w :=
  run_convert_bytes_back (P := Tryd.prog) _ 60 9 5 ⟨g, 0, none⟩ 2 [b, d] Tryd.underlying60 Tryd.underlying5 Tryd.underlying9 fun j hj => by
    have h2 : j = 0 ∨ j = 1 := by simp at hj; omega
    rcases h2 with rfl | rfl
    · exact h.cell 0
    · exact h.cell 1
theorem idx31 (k : Nat) (hk : k < 11) (S : ByteArray) (hS : wK k = S) (w : World) : (Instr.index 69 (.agg wsA31) (.int .i64 (k : Int))).run Tryd.prog w = .ok (.string S) w :=
  run_index_arr (P := Tryd.prog) (t := 69) (e := 9) (n := 11) Tryd.underlying69 (fun w => agg_no Tryd.underlying9 rfl w) (fun w => size_of (P := Tryd.prog) (t := 9) (n := 1) (by kernel_rfl) w) (by omega) (by omega) (by rw [Int.toNat_natCast, wsA31_at hk, hS]) w
set_option maxRecDepth 100000 in
set_option maxHeartbeats 4000000 in
theorem rtext_ok (w : World) (k q m : Nat) (hk : k < 11) (hq : q ≤ 65535) (hm : m ≤ 2147483647) (A : Option Addr) (l : List UInt8) (L c : Nat) (hl : l.length = L) (hL1 : L ≤ 1000) (hr : RB w w.heap.size A l)
    (hchk : scC k q m L = 0) (S : ByteArray) (hS : (⟨(tx3 k q m ++ tx4 l).toArray⟩ : ByteArray) = S) :
    Calls Tryd.prog 39 #[.agg #[.int .i64 (k : Int), .int .i64 (q : Int), .int .i64 (m : Int), .slice A L c]] w fun r w' => r = .returned (.string S) ∧ Below w.heap.size w w' := by
  have Mq := Lib.hid ((Mst.start w).new 67 #[.int .i64 (k : Int), .int .i64 (q : Int), .int .i64 (m : Int), .slice A L c])
  have HC := Lib.hid (show ∀ w', Below w.heap.size w w' → Calls Tryd.prog 40 #[.agg #[.int .i64 (k : Int), .int .i64 (q : Int), .int .i64 (m : Int), .slice A L c]] w' fun r w2 => r = .returned (.int .i64 0) ∧ Below w'.heap.size w' w2 from fun w' hb => by
    have h := (scrc_any k q m A L c).2 w'
    rw [hchk] at h
    exact h)
  obtain ⟨S1, h1⟩ : ∃ S1, wK k = S1 := ⟨_, rfl⟩
  obtain ⟨S2, h2⟩ : ∃ S2, decB q = S2 := ⟨_, rfl⟩
  obtain ⟨S3, h3⟩ : ∃ S3, decB m = S3 := ⟨_, rfl⟩
  have z1 : S1.size ≤ 6 := by rw [← h1]; exact wK_size k hk
  have z2 : S2.size ≤ 21 := by rw [← h2]; exact decB_size q (by omega)
  have z3 : S3.size ≤ 21 := by rw [← h3]; exact decB_size m (by omega)
  obtain ⟨a1, y1⟩ := str_add31 (b := ⟨#[32]⟩) z1 (show (⟨#[32]⟩ : ByteArray).size ≤ 1 by decide) (by decide)
  obtain ⟨T1, t1⟩ : ∃ T, S1 ++ (⟨#[32]⟩ : ByteArray) = T := ⟨_, rfl⟩
  rw [t1] at a1 y1
  obtain ⟨a2, y2⟩ := str_add31 y1 z2 (by decide)
  obtain ⟨T2, t2⟩ : ∃ T, T1 ++ S2 = T := ⟨_, rfl⟩
  rw [t2] at a2 y2
  obtain ⟨a3, y3⟩ := str_add31 (b := ⟨#[32]⟩) y2 (show (⟨#[32]⟩ : ByteArray).size ≤ 1 by decide) (by decide)
  obtain ⟨T3, t3⟩ : ∃ T, T2 ++ (⟨#[32]⟩ : ByteArray) = T := ⟨_, rfl⟩
  rw [t3] at a3 y3
  obtain ⟨a4, y4⟩ := str_add31 y3 z3 (by decide)
  obtain ⟨T4, t4⟩ : ∃ T, T3 ++ S3 = T := ⟨_, rfl⟩
  rw [t4] at a4 y4
  have hT4 : T4 = ⟨(tx3 k q m).toArray⟩ := by
    rw [← t4, ← t3, ← t2, ← t1, ← h1, ← h2, ← h3]
    apply ByteArray.ext
    simp [ByteArray.data_append, tx3, decB]
  have HT4 := Lib.hid hT4
  have HW := Lib.hid (words31_any)
  have HX := idx31 k hk S1 h1
  have HN0 := Lib.hid (fun w => by have h := number_any q q (Nat.le_refl _) (by omega) w; rw [h2] at h; exact h)
  have HN5 := Lib.hid (fun w => by have h := number_any m m (Nat.le_refl _) (by omega) w; rw [h3] at h; exact h)
  have HCE := Lib.hid (show ∀ w' bl' ow', Mst w w' ((w.heap.size, 67, #[.int .i64 (k : Int), .int .i64 (q : Int), .int .i64 (m : Int), .slice A L c]) :: bl') ow' → w'.cell? ⟨w.heap.size, 0, none⟩ = some (.int .i64 (k : Int)) ∧ w'.cell? ⟨w.heap.size, 1, none⟩ = some (.int .i64 (q : Int)) ∧ w'.cell? ⟨w.heap.size, 2, none⟩ = some (.int .i64 (m : Int)) ∧ w'.cell? ⟨w.heap.size, 3, none⟩ = some (.slice A L c) from fun w' bl' ow' h => ⟨(h.blk []).cell 0, (h.blk []).cell 1, (h.blk []).cell 2, (h.blk []).cell 3⟩)
  have HR := Lib.hid hr
  have HL := Lib.hid hl
  have HS := Lib.hid hS
  generalize wsA31 = WS at HW HX
  have i1 : (0 : Int) ≤ L := by omega
  have i2 : (L : Int) ≤ 1000 := by omega
  clear hk hq hm hchk h1 h2 h3 hS hr hl t1 t2 t3 t4 z1 z2 z3 y1 y2 y3 hT4
  have c0 := (Mq.out.blk []).cell 0
  have c1 := (Mq.out.blk []).cell 1
  have c2 := (Mq.out.blk []).cell 2
  have c3 := (Mq.out.blk []).cell 3
  simp only [List.getElem?_toArray, List.getElem?_cons_zero, List.getElem?_cons_succ] at c0 c1 c2 c3
  go_enter Tryd.func39, Tryd.ntmps39
  go_wp2_with fail
  with_reducible refine (HC.out _ Mq.out.bel).mono ?_
  rintro r w1 ⟨rfl, hb⟩
  have Mq := Lib.hid (Mq.out.below hb)
  clear hb c0 c1 c2 c3
  have K0 := Lib.hid (HCE.out _ _ _ Mq.out.drew)
  go_upto_region 3 with fail
  refine wp_region_held_drew (S := fun w' => w'.cell? ⟨w.heap.size, 0, none⟩ = some (.int .i64 (k : Int)) ∧ w'.cell? ⟨w.heap.size, 1, none⟩ = some (.int .i64 (q : Int)) ∧ w'.cell? ⟨w.heap.size, 2, none⟩ = some (.int .i64 (m : Int)) ∧ w'.cell? ⟨w.heap.size, 3, none⟩ = some (.slice A L c)) (by kernel_rfl) ?_ (fun hHeld => ?_)
  · exact K0.out
  generalize hw7 : World.drew _ = w7 at hHeld ⊢
  have Mq := Lib.hid (Mq.out.drew.toV hw7 rfl)
  clear hw7
  refine wpAnyH_take (i := 1) (v := ?_) rfl (by kernel_rfl) (by kernel_rfl) (by kernel_rfl) (fun _ _ _ h => h) (Or.inl ⟨by rfl, ?_⟩) (by assumption) ?_
  rotate_left
  · intro w hSw; (try dsimp only at hSw); go_split_ands; go_simp; with_reducible rfl
  change wpAnyH _ _ _ _ _ _ _ (Act.put _ (some 9) _) _
  simp only [Act.put, List.setIfInBounds_toArray, List.set_cons_zero, List.set_cons_succ, Array.toArray_toList]
  refine wpAnyH_take (i := 2) (v := ?_) rfl (by kernel_rfl) (by kernel_rfl) (by kernel_rfl) (fun _ _ _ h => h) (Or.inl ⟨by rfl, ?_⟩) (by assumption) ?_
  rotate_left
  · intro w hSw; (try dsimp only at hSw); go_split_ands; go_simp; with_reducible rfl
  change wpAnyH _ _ _ _ _ _ _ (Act.put _ (some 10) _) _
  simp only [Act.put, List.setIfInBounds_toArray, List.set_cons_zero, List.set_cons_succ, Array.toArray_toList]
  refine wpAnyH_take (i := 5) (v := ?_) rfl (by kernel_rfl) (by kernel_rfl) (by kernel_rfl) (fun _ _ _ h => h) (Or.inl ⟨by rfl, ?_⟩) (by assumption) ?_
  rotate_left
  · intro w hSw; (try dsimp only at hSw); go_split_ands; go_simp; with_reducible rfl
  change wpAnyH _ _ _ _ _ _ _ (Act.put _ (some 13) _) _
  simp only [Act.put, List.setIfInBounds_toArray, List.set_cons_zero, List.set_cons_succ, Array.toArray_toList]
  refine wpAnyH_take (i := 6) (v := ?_) rfl (by kernel_rfl) (by kernel_rfl) (by kernel_rfl) (fun _ _ _ h => h) (Or.inl ⟨by rfl, ?_⟩) (by assumption) ?_
  rotate_left
  · intro w hSw; (try dsimp only at hSw); go_split_ands; go_simp; with_reducible rfl
  change wpAnyH _ _ _ _ _ _ _ (Act.put _ (some 14) _) _
  simp only [Act.put, List.setIfInBounds_toArray, List.set_cons_zero, List.set_cons_succ, Array.toArray_toList]
  refine wpAnyH_take (i := 10) (v := ?_) rfl (by kernel_rfl) (by kernel_rfl) (by kernel_rfl) (fun _ _ _ h => h) (Or.inl ⟨by rfl, ?_⟩) (by assumption) ?_
  rotate_left
  · intro w hSw; (try dsimp only at hSw); go_split_ands; go_simp; with_reducible rfl
  change wpAnyH _ _ _ _ _ _ _ (Act.put _ (some 18) _) _
  simp only [Act.put, List.setIfInBounds_toArray, List.set_cons_zero, List.set_cons_succ, Array.toArray_toList]
  refine wpAnyH_take (i := 11) (v := ?_) rfl (by kernel_rfl) (by kernel_rfl) (by kernel_rfl) (fun _ _ _ h => h) (Or.inl ⟨by rfl, ?_⟩) (by assumption) ?_
  rotate_left
  · intro w hSw; (try dsimp only at hSw); go_split_ands; go_simp; with_reducible rfl
  change wpAnyH _ _ _ _ _ _ _ (Act.put _ (some 19) _) _
  simp only [Act.put, List.setIfInBounds_toArray, List.set_cons_zero, List.set_cons_succ, Array.toArray_toList]
  refine wpAnyH_ready (rs := [0]) (by kernel_rfl) (by simp) ?_
  refine (AllReadyH.cons rfl (fun K hK => ?_) AllReadyH.nil)
  go_simp
  (with_reducible refine (HW.out _).mono ?_); rintro r wq ⟨rfl, hb⟩; have Mq := Lib.hid (Mq.out.below hb); clear hb
  go_wp2_with fail
  refine hK.out _ _ (by exact HCE.out _ _ _ Mq.out) (fun hHeld => ?_)
  clear hK K
  refine wpAnyH_take (i := 3) (v := ?_) rfl (by kernel_rfl) (by kernel_rfl) (by kernel_rfl) (fun _ _ _ h => h) (Or.inl ⟨by rfl, ?_⟩) (by assumption) ?_
  rotate_left
  · intro w hSw; (try dsimp only at hSw); go_split_ands; go_simp; with_reducible rfl
  change wpAnyH _ _ _ _ _ _ _ (Act.put _ (some 11) _) _
  simp only [Act.put, List.setIfInBounds_toArray, List.set_cons_zero, List.set_cons_succ, Array.toArray_toList]
  refine wpAnyH_take (i := 4) (v := ?_) rfl (by kernel_rfl) (by kernel_rfl) (by kernel_rfl) (fun _ _ _ h => h) (Or.inl ⟨by rfl, ?_⟩) (by assumption) ?_
  rotate_left
  · intro w hSw; (try dsimp only at hSw); go_split_ands; go_simp; with_reducible rfl
  change wpAnyH _ _ _ _ _ _ _ (Act.put _ (some 12) _) _
  simp only [Act.put, List.setIfInBounds_toArray, List.set_cons_zero, List.set_cons_succ, Array.toArray_toList]
  refine wpAnyH_ready (rs := [7]) (by kernel_rfl) (by simp) ?_
  refine (AllReadyH.cons rfl (fun K hK => ?_) AllReadyH.nil)
  go_simp
  (with_reducible refine (HN0.out _).mono ?_); rintro r wq ⟨rfl, hb⟩; have Mq := Lib.hid (Mq.out.below hb); clear hb
  go_wp2_with fail
  refine hK.out _ _ (by exact HCE.out _ _ _ Mq.out) (fun hHeld => ?_)
  clear hK K
  refine wpAnyH_take (i := 8) (v := ?_) rfl (by kernel_rfl) (by kernel_rfl) (by kernel_rfl) (fun _ _ _ h => h) (Or.inl ⟨by rfl, ?_⟩) (by assumption) ?_
  rotate_left
  · intro w hSw; (try dsimp only at hSw); go_split_ands; go_simp; with_reducible rfl
  change wpAnyH _ _ _ _ _ _ _ (Act.put _ (some 16) _) _
  simp only [Act.put, List.setIfInBounds_toArray, List.set_cons_zero, List.set_cons_succ, Array.toArray_toList]
  refine wpAnyH_take (i := 9) (v := ?_) rfl (by kernel_rfl) (by kernel_rfl) (by kernel_rfl) (fun _ _ _ h => h) (Or.inl ⟨by rfl, ?_⟩) (by assumption) ?_
  rotate_left
  · intro w hSw; (try dsimp only at hSw); go_split_ands; go_simp; with_reducible rfl
  change wpAnyH _ _ _ _ _ _ _ (Act.put _ (some 17) _) _
  simp only [Act.put, List.setIfInBounds_toArray, List.set_cons_zero, List.set_cons_succ, Array.toArray_toList]
  refine wpAnyH_ready (rs := [12]) (by kernel_rfl) (by simp) ?_
  refine (AllReadyH.cons rfl (fun K hK => ?_) AllReadyH.nil)
  go_simp
  (with_reducible refine (HN5.out _).mono ?_); rintro r wq ⟨rfl, hb⟩; have Mq := Lib.hid (Mq.out.below hb); clear hb
  go_wp2_with fail
  refine hK.out _ _ (by exact HCE.out _ _ _ Mq.out) (fun hHeld => ?_)
  clear hK K
  refine wpAnyH_take (i := 13) (v := ?_) rfl (by kernel_rfl) (by kernel_rfl) (by kernel_rfl) (fun _ _ _ h => h) (Or.inl ⟨by rfl, ?_⟩) (by assumption) ?_
  rotate_left
  · intro w hSw; (try dsimp only at hSw); go_split_ands; go_simp; with_reducible rfl
  change wpAnyH _ _ _ _ _ _ _ (Act.put _ (some 21) _) _
  simp only [Act.put, List.setIfInBounds_toArray, List.set_cons_zero, List.set_cons_succ, Array.toArray_toList]
  refine wpAnyH_take (i := 14) (v := ?_) rfl (by kernel_rfl) (by kernel_rfl) (by kernel_rfl) (fun _ _ _ h => h) (Or.inl ⟨by rfl, ?_⟩) (by assumption) ?_
  rotate_left
  · intro w hSw; (try dsimp only at hSw); go_split_ands; go_simp; with_reducible rfl
  change wpAnyH _ _ _ _ _ _ _ (Act.put _ (some 3) _) _
  simp only [Act.put, List.setIfInBounds_toArray, List.set_cons_zero, List.set_cons_succ, Array.toArray_toList]
  refine wpAnyH_done (by kernel_rfl) ?_ _
  obtain ⟨d0, d1, d2, d3⟩ := HCE.out _ _ _ Mq.out
  clear hHeld K0
  obtain ⟨B, hB⟩ : ∃ B, tx3 k q m ++ (if l = [] then [] else [32]) = B := ⟨_, rfl⟩
  have HB := Lib.hid hB
  have HBS := Lib.hid (show (⟨(B ++ hexL l).toArray⟩ : ByteArray) = S from by
    rw [← HS.out, ← hB]
    unfold tx4
    split
    · rename_i h; rw [h]; simp [hexL]
    · simp)
  have HEND : ∀ T : ByteArray, T = ⟨B.toArray⟩ → T.size ≤ 61 → True := fun _ _ _ => trivial
  rcases Nat.eq_zero_or_pos L with h0 | h0
  · have g1 : decide (0 < L) = false := by simp; omega
    obtain ⟨T5, hT5⟩ : ∃ T5 : ByteArray, T5 = T4 := ⟨_, rfl⟩
    have e5 : T5 = ⟨B.toArray⟩ := by
      rw [hT5, HT4.out, ← hB, if_pos (List.eq_nil_of_length_eq_zero (by rw [HL.out]; exact h0)), List.append_nil]
    have z5 : T5.size ≤ 62 := by rw [hT5]; omega
    have E5 := Lib.hid e5
    rw [← hT5]
    clear hB e5 h0 hT5
    go_wp2_with fail
    clear d0 d1 d2 g1 a1 a2 a3 a4 y4 HX HW HN0 HN5 HT4 HS
    go_loopg [3, 4] L (fun gg s3 s4 wr => ∃ (k' : Nat) (T : ByteArray), k' + gg = L ∧ s4 = .int .i64 k' ∧ s3 = .string T ∧ Hid (T = ⟨(B ++ hexL (l.take k')).toArray⟩) ∧ T.size ≤ 62 + 2 * k' ∧ Mst w wr [(w.heap.size, 67, #[.int .i64 (k : Int), .int .i64 (q : Int), .int .i64 (m : Int), .slice A L c])] [])
    case atStart => exact ⟨0, T5, by omega, rfl, rfl, Lib.hid (by rw [E5.out]; simp [hexL]), by omega, (Mq.out).sub (by simp) (by simp)⟩
    case round =>
      obtain ⟨k', T, hk, rfl, rfl, ht, hz, hm⟩ := hrel
      clear Mq E5 z5 d3
      by_cases hlt : k' < L
      · obtain ⟨b, hb⟩ : ∃ b, l[k']? = some b := ⟨_, List.getElem?_eq_getElem (by rw [HL.out]; exact hlt)⟩
        obtain ⟨g, o, rfl, hg, hc⟩ := HR.out.at_ (by rw [HL.out]; omega)
        obtain ⟨hi, hhi⟩ : ∃ hi : Int, ((b.toNat / 16 : Nat) : Int) = hi := ⟨_, rfl⟩
        obtain ⟨lo, hlo⟩ : ∃ lo : Int, ((b.toNat % 16 : Nat) : Int) = lo := ⟨_, rfl⟩
        have bl : b.toNat < 256 := b.toNat_lt
        have HS1 := Lib.hid (sign31_any (b.toNat / 16) (by omega))
        have HS2 := Lib.hid (sign31_any (b.toNat % 16) (by omega))
        rw [hhi] at HS1
        rw [hlo] at HS2
        have hdiv : ((b.toNat : Int)).tdiv 16 = hi := by rw [← hhi, Int.tdiv_eq_ediv_of_nonneg (by omega)]; omega
        have hmod : ((b.toNat : Int)).tmod 16 = lo := by rw [← hlo, Int.tmod_eq_emod_of_nonneg (by omega)]; omega
        have w1 : IntKind.u8.wrap hi = hi := IntWalk.u8_in _ (by omega)
        have w2 : IntKind.u8.wrap lo = lo := IntWalk.u8_in _ (by omega)
        have hT1 : (⟨(B ++ hexL (l.take (k' + 1))).toArray⟩ : ByteArray) = T ++ ⟨#[sgn (b.toNat / 16), sgn (b.toNat % 16)]⟩ := by
          rw [hexL_take hb, ht.out]
          apply ByteArray.ext
          simp [ByteArray.data_append]
        obtain ⟨a6, z6⟩ := str_add31 (b := ⟨#[sgn (b.toNat / 16), sgn (b.toNat % 16)]⟩) hz (show (⟨#[sgn (b.toNat / 16), sgn (b.toNat % 16)]⟩ : ByteArray).size ≤ 2 from Nat.le_refl _) (by omega)
        have HCV := Lib.hid (fun w' g' (h : Bk w' g' 5 #[.int .u8 ((sgn (b.toNat / 16)).toNat : Int), .int .u8 ((sgn (b.toNat % 16)).toNat : Int)]) => conv2 (w := w') (w2 := w') (g := g') _ _ h)
        obtain ⟨U, hU⟩ : ∃ U : ByteArray, (⟨#[sgn (b.toNat / 16), sgn (b.toNat % 16)]⟩ : ByteArray) = U := ⟨_, rfl⟩
        rw [hU] at hT1 a6 z6 HCV
        obtain ⟨T', hT'⟩ : ∃ T' : ByteArray, T ++ U = T' := ⟨_, rfl⟩
        rw [hT'] at hT1 a6 z6
        have HT1 := Lib.hid hT1
        obtain ⟨n1, hn1⟩ : ∃ n : Int, ((sgn (b.toNat / 16)).toNat : Int) = n := ⟨_, rfl⟩
        obtain ⟨n2, hn2⟩ : ∃ n : Int, ((sgn (b.toNat % 16)).toNat : Int) = n := ⟨_, rfl⟩
        rw [hn1] at HS1 HCV
        rw [hn2] at HS2 HCV
        obtain ⟨bi, hbi⟩ : ∃ bi : Int, (b.toNat : Int) = bi := ⟨_, rfl⟩
        have hc' := hc k' b hb
        rw [hbi] at hc' hdiv hmod
        have HCE := Lib.hid (show ∀ w' bl' ow', Mst w w' ((w.heap.size, 67, #[.int .i64 (k : Int), .int .i64 (q : Int), .int .i64 (m : Int), .slice (some ⟨g, o, none⟩) L c]) :: bl') ow' → w'.cell? ⟨w.heap.size, 3, none⟩ = some (.slice (some ⟨g, o, none⟩) L c) ∧ w'.cell? ⟨g, o + k', none⟩ = some (.int .u8 bi) from fun w' bl' ow' h => ⟨(HCE.out w' bl' ow' h).2.2.2, h.old hg hc'⟩)
        have Mq := Lib.hid hm
        have d3 := (HCE.out _ _ _ hm).1
        have i3 : (k' : Int) < L := by omega
        have i4 : (0 : Int) ≤ k' := by omega
        have K0 := Lib.hid (HCE.out _ _ _ Mq.out.drew)
        clear hm ht hc hc' hb hg hbi hn1 hn2 hhi hlo bl hT1 hU hT' HR
        go_upto_region 9 with fail
        refine wp_region_held_drew (S := fun w' => w'.cell? ⟨w.heap.size, 3, none⟩ = some (.slice (some ⟨g, o, none⟩) L c) ∧ w'.cell? ⟨g, o + k', none⟩ = some (.int .u8 bi)) (by kernel_rfl) ?_ (fun hHeld => ?_)
        · exact K0.out
        generalize hw7 : World.drew _ = w7 at hHeld ⊢
        have Mq := Lib.hid (Mq.out.drew.toV hw7 rfl)
        clear hw7
        refine wpAnyH_take (i := 0) (v := ?_) rfl (by kernel_rfl) (by kernel_rfl) (by kernel_rfl) (fun _ _ _ h => h) (Or.inl ⟨by rfl, ?_⟩) (by assumption) ?_
        rotate_left
        · intro w hSw; (try dsimp only at hSw); go_split_ands; go_simp; with_reducible rfl
        change wpAnyH _ _ _ _ _ _ _ (Act.put _ (some 35) _) _
        simp only [Act.put, List.setIfInBounds_toArray, List.set_cons_zero, List.set_cons_succ, Array.toArray_toList]
        refine wpAnyH_take (i := 1) (v := ?_) rfl (by kernel_rfl) (by kernel_rfl) (by kernel_rfl) (fun _ _ _ h => h) (Or.inl ⟨by rfl, ?_⟩) (by assumption) ?_
        rotate_left
        · intro w hSw; (try dsimp only at hSw); go_split_ands; go_simp; with_reducible rfl
        change wpAnyH _ _ _ _ _ _ _ (Act.put _ (some 36) _) _
        simp only [Act.put, List.setIfInBounds_toArray, List.set_cons_zero, List.set_cons_succ, Array.toArray_toList]
        refine wpAnyH_take (i := 2) (v := ?_) rfl (by kernel_rfl) (by kernel_rfl) (by kernel_rfl) (fun _ _ _ h => h) (Or.inl ⟨by rfl, ?_⟩) (by assumption) ?_
        rotate_left
        · intro w hSw; (try dsimp only at hSw); go_split_ands; go_simp; with_reducible rfl
        change wpAnyH _ _ _ _ _ _ _ (Act.put _ (some 37) _) _
        simp only [Act.put, List.setIfInBounds_toArray, List.set_cons_zero, List.set_cons_succ, Array.toArray_toList]
        refine wpAnyH_take (i := 3) (v := ?_) rfl (by kernel_rfl) (by kernel_rfl) (by kernel_rfl) (fun _ _ _ h => h) (Or.inl ⟨by rfl, ?_⟩) (by assumption) ?_
        rotate_left
        · intro w hSw; (try dsimp only at hSw); go_split_ands; go_simp; with_reducible rfl
        change wpAnyH _ _ _ _ _ _ _ (Act.put _ (some 38) _) _
        simp only [Act.put, List.setIfInBounds_toArray, List.set_cons_zero, List.set_cons_succ, Array.toArray_toList]
        refine wpAnyH_take (i := 4) (v := ?_) rfl (by kernel_rfl) (by kernel_rfl) (by kernel_rfl) (fun _ _ _ h => h) (Or.inl ⟨by rfl, ?_⟩) (by assumption) ?_
        rotate_left
        · intro w hSw; (try dsimp only at hSw); go_split_ands; go_simp; with_reducible rfl
        change wpAnyH _ _ _ _ _ _ _ (Act.put _ (some 39) _) _
        simp only [Act.put, List.setIfInBounds_toArray, List.set_cons_zero, List.set_cons_succ, Array.toArray_toList]
        refine wpAnyH_take (i := 5) (v := ?_) rfl (by kernel_rfl) (by kernel_rfl) (by kernel_rfl) (fun _ _ _ h => h) (Or.inl ⟨by rfl, ?_⟩) (by assumption) ?_
        rotate_left
        · intro w hSw; (try dsimp only at hSw); go_split_ands; go_simp; with_reducible rfl
        change wpAnyH _ _ _ _ _ _ _ (Act.put _ (some 40) _) _
        simp only [Act.put, List.setIfInBounds_toArray, List.set_cons_zero, List.set_cons_succ, Array.toArray_toList]
        refine wpAnyH_take (i := 6) (v := ?_) rfl (by kernel_rfl) (by kernel_rfl) (by kernel_rfl) (fun _ _ _ h => h) (Or.inl ⟨by rfl, ?_⟩) (by assumption) ?_
        rotate_left
        · intro w hSw; (try dsimp only at hSw); go_split_ands; go_simp; with_reducible rfl
        change wpAnyH _ _ _ _ _ _ _ (Act.put _ (some 41) _) _
        simp only [Act.put, List.setIfInBounds_toArray, List.set_cons_zero, List.set_cons_succ, Array.toArray_toList]
        refine wpAnyH_take (i := 8) (v := ?_) rfl (by kernel_rfl) (by kernel_rfl) (by kernel_rfl) (fun _ _ _ h => h) (Or.inl ⟨by rfl, ?_⟩) (by assumption) ?_
        rotate_left
        · intro w hSw; (try dsimp only at hSw); go_split_ands; go_simp; with_reducible rfl
        change wpAnyH _ _ _ _ _ _ _ (Act.put _ (some 43) _) _
        simp only [Act.put, List.setIfInBounds_toArray, List.set_cons_zero, List.set_cons_succ, Array.toArray_toList]
        refine wpAnyH_take (i := 9) (v := ?_) rfl (by kernel_rfl) (by kernel_rfl) (by kernel_rfl) (fun _ _ _ h => h) (Or.inl ⟨by rfl, ?_⟩) (by assumption) ?_
        rotate_left
        · intro w hSw; (try dsimp only at hSw); go_split_ands; go_simp; with_reducible rfl
        change wpAnyH _ _ _ _ _ _ _ (Act.put _ (some 44) _) _
        simp only [Act.put, List.setIfInBounds_toArray, List.set_cons_zero, List.set_cons_succ, Array.toArray_toList]
        refine wpAnyH_take (i := 10) (v := ?_) rfl (by kernel_rfl) (by kernel_rfl) (by kernel_rfl) (fun _ _ _ h => h) (Or.inl ⟨by rfl, ?_⟩) (by assumption) ?_
        rotate_left
        · intro w hSw; (try dsimp only at hSw); go_split_ands; go_simp; with_reducible rfl
        change wpAnyH _ _ _ _ _ _ _ (Act.put _ (some 45) _) _
        simp only [Act.put, List.setIfInBounds_toArray, List.set_cons_zero, List.set_cons_succ, Array.toArray_toList]
        refine wpAnyH_take (i := 11) (v := ?_) rfl (by kernel_rfl) (by kernel_rfl) (by kernel_rfl) (fun _ _ _ h => h) (Or.inl ⟨by rfl, ?_⟩) (by assumption) ?_
        rotate_left
        · intro w hSw; (try dsimp only at hSw); go_split_ands; go_simp; with_reducible rfl
        change wpAnyH _ _ _ _ _ _ _ (Act.put _ (some 46) _) _
        simp only [Act.put, List.setIfInBounds_toArray, List.set_cons_zero, List.set_cons_succ, Array.toArray_toList]
        refine wpAnyH_take (i := 12) (v := ?_) rfl (by kernel_rfl) (by kernel_rfl) (by kernel_rfl) (fun _ _ _ h => h) (Or.inl ⟨by rfl, ?_⟩) (by assumption) ?_
        rotate_left
        · intro w hSw; (try dsimp only at hSw); go_split_ands; go_simp; with_reducible rfl
        change wpAnyH _ _ _ _ _ _ _ (Act.put _ (some 47) _) _
        simp only [Act.put, List.setIfInBounds_toArray, List.set_cons_zero, List.set_cons_succ, Array.toArray_toList]
        refine wpAnyH_take (i := 13) (v := ?_) rfl (by kernel_rfl) (by kernel_rfl) (by kernel_rfl) (fun _ _ _ h => h) (Or.inl ⟨by rfl, ?_⟩) (by assumption) ?_
        rotate_left
        · intro w hSw; (try dsimp only at hSw); go_split_ands; go_simp; with_reducible rfl
        change wpAnyH _ _ _ _ _ _ _ (Act.put _ (some 48) _) _
        simp only [Act.put, List.setIfInBounds_toArray, List.set_cons_zero, List.set_cons_succ, Array.toArray_toList]
        refine wpAnyH_ready (rs := [7]) (by kernel_rfl) (by simp) ?_
        refine (AllReadyH.cons rfl (fun K hK => ?_) AllReadyH.nil)
        go_simp
        (with_reducible refine (HS1.out _).mono ?_); rintro r wq ⟨rfl, rfl⟩
        go_wp2_with fail
        refine hK.out _ _ (by exact HCE.out _ _ _ (by first | exact Mq.out | exact Mr.out)) (fun hHeld => ?_)
        clear hK K
        refine wpAnyH_ready (rs := [14]) (by kernel_rfl) (by simp) ?_
        refine (AllReadyH.cons rfl (fun K hK => ?_) AllReadyH.nil)
        go_simp
        (with_reducible refine (HS2.out _).mono ?_); rintro r wq ⟨rfl, rfl⟩
        go_wp2_with fail
        refine hK.out _ _ (by exact HCE.out _ _ _ (by first | exact Mq.out | exact Mr.out)) (fun hHeld => ?_)
        clear hK K
        refine wpAnyH_ready (rs := [15]) (by kernel_rfl) (by simp) ?_
        refine (AllReadyH.cons rfl (fun K hK => ?_) AllReadyH.nil)
        go_simp; generalize hwq : World.alloc _ _ = wq; obtain ⟨g4, hg4, mq⟩ := Mq.out.newX hwq; rw [hg4]; have HCG := Lib.hid (HCV.out _ _ (mq.blk [])); have Mr := Lib.hid (mq.sub (bl' := [_]) (List.sublist_cons_self _ _) (List.Sublist.refl _)); clear hwq hg4 mq
        refine hK.out _ _ (by exact HCE.out _ _ _ (by first | exact Mq.out | exact Mr.out)) (fun hHeld => ?_)
        clear hK K
        refine wpAnyH_ready (rs := [16]) (by kernel_rfl) (by simp) ?_
        refine (AllReadyH.cons rfl (fun K hK => ?_) AllReadyH.nil)
        refine step_convS rfl _ _ _ rfl _ _ rfl HCG.out ?_
        refine hK.out _ _ (by exact HCE.out _ _ _ (by first | exact Mq.out | exact Mr.out)) (fun hHeld => ?_)
        clear hK K
        refine wpAnyH_take (i := 17) (v := ?_) rfl (by kernel_rfl) (by kernel_rfl) (by kernel_rfl) (fun _ _ _ h => h) (Or.inl ⟨by rfl, ?_⟩) (by assumption) ?_
        rotate_left
        · intro w hSw; (try dsimp only at hSw); go_split_ands; go_simp; with_reducible rfl
        change wpAnyH _ _ _ _ _ _ _ (Act.put _ (some 52) _) _
        simp only [Act.put, List.setIfInBounds_toArray, List.set_cons_zero, List.set_cons_succ, Array.toArray_toList]
        refine wpAnyH_take (i := 18) (v := ?_) rfl (by kernel_rfl) (by kernel_rfl) (by kernel_rfl) (fun _ _ _ h => h) (Or.inl ⟨by rfl, ?_⟩) (by assumption) ?_
        rotate_left
        · intro w hSw; (try dsimp only at hSw); go_split_ands; go_simp; with_reducible rfl
        change wpAnyH _ _ _ _ _ _ _ (Act.put _ (some 3) _) _
        simp only [Act.put, List.setIfInBounds_toArray, List.set_cons_zero, List.set_cons_succ, Array.toArray_toList]
        refine wpAnyH_done (by kernel_rfl) ?_ _
        have d3 := (HCE.out _ _ _ Mr.out).1
        clear hHeld K0 Mq
        go_wp2_with fail
        go_roundg (L - (k' + 1))
        case measure => exact meas hk hlt
        case rel => exact ⟨k' + 1, T', meas2 hlt, by go_num, rfl, Lib.hid HT1.out.symm, by omega, Mr.out⟩
      · obtain rfl : k' = L := by omega
        have HT2 := Lib.hid (show T = S from by
          rw [ht.out, List.take_of_length_le (by rw [HL.out]; exact Nat.le_refl _)]
          exact HBS.out)
        have d3 := (HCE.out _ _ _ hm).2.2.2
        have Mq := Lib.hid hm
        clear ht hz hm hlt hk
        go_wp2_with fail
        go_ret
        exact ⟨by rw [HT2.out]; rfl, Mq.out.bel⟩
  · have g1 : decide (0 < L) = true := by simp; omega
    obtain ⟨a5, z5⟩ := str_add31 (b := ⟨#[32]⟩) y4 (show (⟨#[32]⟩ : ByteArray).size ≤ 1 by decide) (by decide)
    obtain ⟨T5, hT5⟩ : ∃ T5 : ByteArray, T4 ++ (⟨#[32]⟩ : ByteArray) = T5 := ⟨_, rfl⟩
    have e5 : T5 = ⟨B.toArray⟩ := by
      rw [← hT5, HT4.out, ← hB, if_neg (by intro h; rw [← HL.out, h] at h0; simp at h0)]
      apply ByteArray.ext
      simp [ByteArray.data_append]
    rw [hT5] at a5 z5
    have E5 := Lib.hid e5
    clear hB e5 h0 hT5
    go_wp2_with fail
    clear d0 d1 d2 g1 a1 a2 a3 a4 y4 HX HW HN0 HN5 HT4 HS
    go_loopg [3, 4] L (fun gg s3 s4 wr => ∃ (k' : Nat) (T : ByteArray), k' + gg = L ∧ s4 = .int .i64 k' ∧ s3 = .string T ∧ Hid (T = ⟨(B ++ hexL (l.take k')).toArray⟩) ∧ T.size ≤ 62 + 2 * k' ∧ Mst w wr [(w.heap.size, 67, #[.int .i64 (k : Int), .int .i64 (q : Int), .int .i64 (m : Int), .slice A L c])] [])
    case atStart => exact ⟨0, T5, by omega, rfl, rfl, Lib.hid (by rw [E5.out]; simp [hexL]), by omega, (Mq.out).sub (by simp) (by simp)⟩
    case round =>
      obtain ⟨k', T, hk, rfl, rfl, ht, hz, hm⟩ := hrel
      clear Mq E5 z5 d3
      by_cases hlt : k' < L
      · obtain ⟨b, hb⟩ : ∃ b, l[k']? = some b := ⟨_, List.getElem?_eq_getElem (by rw [HL.out]; exact hlt)⟩
        obtain ⟨g, o, rfl, hg, hc⟩ := HR.out.at_ (by rw [HL.out]; omega)
        obtain ⟨hi, hhi⟩ : ∃ hi : Int, ((b.toNat / 16 : Nat) : Int) = hi := ⟨_, rfl⟩
        obtain ⟨lo, hlo⟩ : ∃ lo : Int, ((b.toNat % 16 : Nat) : Int) = lo := ⟨_, rfl⟩
        have bl : b.toNat < 256 := b.toNat_lt
        have HS1 := Lib.hid (sign31_any (b.toNat / 16) (by omega))
        have HS2 := Lib.hid (sign31_any (b.toNat % 16) (by omega))
        rw [hhi] at HS1
        rw [hlo] at HS2
        have hdiv : ((b.toNat : Int)).tdiv 16 = hi := by rw [← hhi, Int.tdiv_eq_ediv_of_nonneg (by omega)]; omega
        have hmod : ((b.toNat : Int)).tmod 16 = lo := by rw [← hlo, Int.tmod_eq_emod_of_nonneg (by omega)]; omega
        have w1 : IntKind.u8.wrap hi = hi := IntWalk.u8_in _ (by omega)
        have w2 : IntKind.u8.wrap lo = lo := IntWalk.u8_in _ (by omega)
        have hT1 : (⟨(B ++ hexL (l.take (k' + 1))).toArray⟩ : ByteArray) = T ++ ⟨#[sgn (b.toNat / 16), sgn (b.toNat % 16)]⟩ := by
          rw [hexL_take hb, ht.out]
          apply ByteArray.ext
          simp [ByteArray.data_append]
        obtain ⟨a6, z6⟩ := str_add31 (b := ⟨#[sgn (b.toNat / 16), sgn (b.toNat % 16)]⟩) hz (show (⟨#[sgn (b.toNat / 16), sgn (b.toNat % 16)]⟩ : ByteArray).size ≤ 2 from Nat.le_refl _) (by omega)
        have HCV := Lib.hid (fun w' g' (h : Bk w' g' 5 #[.int .u8 ((sgn (b.toNat / 16)).toNat : Int), .int .u8 ((sgn (b.toNat % 16)).toNat : Int)]) => conv2 (w := w') (w2 := w') (g := g') _ _ h)
        obtain ⟨U, hU⟩ : ∃ U : ByteArray, (⟨#[sgn (b.toNat / 16), sgn (b.toNat % 16)]⟩ : ByteArray) = U := ⟨_, rfl⟩
        rw [hU] at hT1 a6 z6 HCV
        obtain ⟨T', hT'⟩ : ∃ T' : ByteArray, T ++ U = T' := ⟨_, rfl⟩
        rw [hT'] at hT1 a6 z6
        have HT1 := Lib.hid hT1
        obtain ⟨n1, hn1⟩ : ∃ n : Int, ((sgn (b.toNat / 16)).toNat : Int) = n := ⟨_, rfl⟩
        obtain ⟨n2, hn2⟩ : ∃ n : Int, ((sgn (b.toNat % 16)).toNat : Int) = n := ⟨_, rfl⟩
        rw [hn1] at HS1 HCV
        rw [hn2] at HS2 HCV
        obtain ⟨bi, hbi⟩ : ∃ bi : Int, (b.toNat : Int) = bi := ⟨_, rfl⟩
        have hc' := hc k' b hb
        rw [hbi] at hc' hdiv hmod
        have HCE := Lib.hid (show ∀ w' bl' ow', Mst w w' ((w.heap.size, 67, #[.int .i64 (k : Int), .int .i64 (q : Int), .int .i64 (m : Int), .slice (some ⟨g, o, none⟩) L c]) :: bl') ow' → w'.cell? ⟨w.heap.size, 3, none⟩ = some (.slice (some ⟨g, o, none⟩) L c) ∧ w'.cell? ⟨g, o + k', none⟩ = some (.int .u8 bi) from fun w' bl' ow' h => ⟨(HCE.out w' bl' ow' h).2.2.2, h.old hg hc'⟩)
        have Mq := Lib.hid hm
        have d3 := (HCE.out _ _ _ hm).1
        have i3 : (k' : Int) < L := by omega
        have i4 : (0 : Int) ≤ k' := by omega
        have K0 := Lib.hid (HCE.out _ _ _ Mq.out.drew)
        clear hm ht hc hc' hb hg hbi hn1 hn2 hhi hlo bl hT1 hU hT' HR
        go_upto_region 9 with fail
        refine wp_region_held_drew (S := fun w' => w'.cell? ⟨w.heap.size, 3, none⟩ = some (.slice (some ⟨g, o, none⟩) L c) ∧ w'.cell? ⟨g, o + k', none⟩ = some (.int .u8 bi)) (by kernel_rfl) ?_ (fun hHeld => ?_)
        · exact K0.out
        generalize hw7 : World.drew _ = w7 at hHeld ⊢
        have Mq := Lib.hid (Mq.out.drew.toV hw7 rfl)
        clear hw7
        refine wpAnyH_take (i := 0) (v := ?_) rfl (by kernel_rfl) (by kernel_rfl) (by kernel_rfl) (fun _ _ _ h => h) (Or.inl ⟨by rfl, ?_⟩) (by assumption) ?_
        rotate_left
        · intro w hSw; (try dsimp only at hSw); go_split_ands; go_simp; with_reducible rfl
        change wpAnyH _ _ _ _ _ _ _ (Act.put _ (some 35) _) _
        simp only [Act.put, List.setIfInBounds_toArray, List.set_cons_zero, List.set_cons_succ, Array.toArray_toList]
        refine wpAnyH_take (i := 1) (v := ?_) rfl (by kernel_rfl) (by kernel_rfl) (by kernel_rfl) (fun _ _ _ h => h) (Or.inl ⟨by rfl, ?_⟩) (by assumption) ?_
        rotate_left
        · intro w hSw; (try dsimp only at hSw); go_split_ands; go_simp; with_reducible rfl
        change wpAnyH _ _ _ _ _ _ _ (Act.put _ (some 36) _) _
        simp only [Act.put, List.setIfInBounds_toArray, List.set_cons_zero, List.set_cons_succ, Array.toArray_toList]
        refine wpAnyH_take (i := 2) (v := ?_) rfl (by kernel_rfl) (by kernel_rfl) (by kernel_rfl) (fun _ _ _ h => h) (Or.inl ⟨by rfl, ?_⟩) (by assumption) ?_
        rotate_left
        · intro w hSw; (try dsimp only at hSw); go_split_ands; go_simp; with_reducible rfl
        change wpAnyH _ _ _ _ _ _ _ (Act.put _ (some 37) _) _
        simp only [Act.put, List.setIfInBounds_toArray, List.set_cons_zero, List.set_cons_succ, Array.toArray_toList]
        refine wpAnyH_take (i := 3) (v := ?_) rfl (by kernel_rfl) (by kernel_rfl) (by kernel_rfl) (fun _ _ _ h => h) (Or.inl ⟨by rfl, ?_⟩) (by assumption) ?_
        rotate_left
        · intro w hSw; (try dsimp only at hSw); go_split_ands; go_simp; with_reducible rfl
        change wpAnyH _ _ _ _ _ _ _ (Act.put _ (some 38) _) _
        simp only [Act.put, List.setIfInBounds_toArray, List.set_cons_zero, List.set_cons_succ, Array.toArray_toList]
        refine wpAnyH_take (i := 4) (v := ?_) rfl (by kernel_rfl) (by kernel_rfl) (by kernel_rfl) (fun _ _ _ h => h) (Or.inl ⟨by rfl, ?_⟩) (by assumption) ?_
        rotate_left
        · intro w hSw; (try dsimp only at hSw); go_split_ands; go_simp; with_reducible rfl
        change wpAnyH _ _ _ _ _ _ _ (Act.put _ (some 39) _) _
        simp only [Act.put, List.setIfInBounds_toArray, List.set_cons_zero, List.set_cons_succ, Array.toArray_toList]
        refine wpAnyH_take (i := 5) (v := ?_) rfl (by kernel_rfl) (by kernel_rfl) (by kernel_rfl) (fun _ _ _ h => h) (Or.inl ⟨by rfl, ?_⟩) (by assumption) ?_
        rotate_left
        · intro w hSw; (try dsimp only at hSw); go_split_ands; go_simp; with_reducible rfl
        change wpAnyH _ _ _ _ _ _ _ (Act.put _ (some 40) _) _
        simp only [Act.put, List.setIfInBounds_toArray, List.set_cons_zero, List.set_cons_succ, Array.toArray_toList]
        refine wpAnyH_take (i := 6) (v := ?_) rfl (by kernel_rfl) (by kernel_rfl) (by kernel_rfl) (fun _ _ _ h => h) (Or.inl ⟨by rfl, ?_⟩) (by assumption) ?_
        rotate_left
        · intro w hSw; (try dsimp only at hSw); go_split_ands; go_simp; with_reducible rfl
        change wpAnyH _ _ _ _ _ _ _ (Act.put _ (some 41) _) _
        simp only [Act.put, List.setIfInBounds_toArray, List.set_cons_zero, List.set_cons_succ, Array.toArray_toList]
        refine wpAnyH_take (i := 8) (v := ?_) rfl (by kernel_rfl) (by kernel_rfl) (by kernel_rfl) (fun _ _ _ h => h) (Or.inl ⟨by rfl, ?_⟩) (by assumption) ?_
        rotate_left
        · intro w hSw; (try dsimp only at hSw); go_split_ands; go_simp; with_reducible rfl
        change wpAnyH _ _ _ _ _ _ _ (Act.put _ (some 43) _) _
        simp only [Act.put, List.setIfInBounds_toArray, List.set_cons_zero, List.set_cons_succ, Array.toArray_toList]
        refine wpAnyH_take (i := 9) (v := ?_) rfl (by kernel_rfl) (by kernel_rfl) (by kernel_rfl) (fun _ _ _ h => h) (Or.inl ⟨by rfl, ?_⟩) (by assumption) ?_
        rotate_left
        · intro w hSw; (try dsimp only at hSw); go_split_ands; go_simp; with_reducible rfl
        change wpAnyH _ _ _ _ _ _ _ (Act.put _ (some 44) _) _
        simp only [Act.put, List.setIfInBounds_toArray, List.set_cons_zero, List.set_cons_succ, Array.toArray_toList]
        refine wpAnyH_take (i := 10) (v := ?_) rfl (by kernel_rfl) (by kernel_rfl) (by kernel_rfl) (fun _ _ _ h => h) (Or.inl ⟨by rfl, ?_⟩) (by assumption) ?_
        rotate_left
        · intro w hSw; (try dsimp only at hSw); go_split_ands; go_simp; with_reducible rfl
        change wpAnyH _ _ _ _ _ _ _ (Act.put _ (some 45) _) _
        simp only [Act.put, List.setIfInBounds_toArray, List.set_cons_zero, List.set_cons_succ, Array.toArray_toList]
        refine wpAnyH_take (i := 11) (v := ?_) rfl (by kernel_rfl) (by kernel_rfl) (by kernel_rfl) (fun _ _ _ h => h) (Or.inl ⟨by rfl, ?_⟩) (by assumption) ?_
        rotate_left
        · intro w hSw; (try dsimp only at hSw); go_split_ands; go_simp; with_reducible rfl
        change wpAnyH _ _ _ _ _ _ _ (Act.put _ (some 46) _) _
        simp only [Act.put, List.setIfInBounds_toArray, List.set_cons_zero, List.set_cons_succ, Array.toArray_toList]
        refine wpAnyH_take (i := 12) (v := ?_) rfl (by kernel_rfl) (by kernel_rfl) (by kernel_rfl) (fun _ _ _ h => h) (Or.inl ⟨by rfl, ?_⟩) (by assumption) ?_
        rotate_left
        · intro w hSw; (try dsimp only at hSw); go_split_ands; go_simp; with_reducible rfl
        change wpAnyH _ _ _ _ _ _ _ (Act.put _ (some 47) _) _
        simp only [Act.put, List.setIfInBounds_toArray, List.set_cons_zero, List.set_cons_succ, Array.toArray_toList]
        refine wpAnyH_take (i := 13) (v := ?_) rfl (by kernel_rfl) (by kernel_rfl) (by kernel_rfl) (fun _ _ _ h => h) (Or.inl ⟨by rfl, ?_⟩) (by assumption) ?_
        rotate_left
        · intro w hSw; (try dsimp only at hSw); go_split_ands; go_simp; with_reducible rfl
        change wpAnyH _ _ _ _ _ _ _ (Act.put _ (some 48) _) _
        simp only [Act.put, List.setIfInBounds_toArray, List.set_cons_zero, List.set_cons_succ, Array.toArray_toList]
        refine wpAnyH_ready (rs := [7]) (by kernel_rfl) (by simp) ?_
        refine (AllReadyH.cons rfl (fun K hK => ?_) AllReadyH.nil)
        go_simp
        (with_reducible refine (HS1.out _).mono ?_); rintro r wq ⟨rfl, rfl⟩
        go_wp2_with fail
        refine hK.out _ _ (by exact HCE.out _ _ _ (by first | exact Mq.out | exact Mr.out)) (fun hHeld => ?_)
        clear hK K
        refine wpAnyH_ready (rs := [14]) (by kernel_rfl) (by simp) ?_
        refine (AllReadyH.cons rfl (fun K hK => ?_) AllReadyH.nil)
        go_simp
        (with_reducible refine (HS2.out _).mono ?_); rintro r wq ⟨rfl, rfl⟩
        go_wp2_with fail
        refine hK.out _ _ (by exact HCE.out _ _ _ (by first | exact Mq.out | exact Mr.out)) (fun hHeld => ?_)
        clear hK K
        refine wpAnyH_ready (rs := [15]) (by kernel_rfl) (by simp) ?_
        refine (AllReadyH.cons rfl (fun K hK => ?_) AllReadyH.nil)
        go_simp; generalize hwq : World.alloc _ _ = wq; obtain ⟨g4, hg4, mq⟩ := Mq.out.newX hwq; rw [hg4]; have HCG := Lib.hid (HCV.out _ _ (mq.blk [])); have Mr := Lib.hid (mq.sub (bl' := [_]) (List.sublist_cons_self _ _) (List.Sublist.refl _)); clear hwq hg4 mq
        refine hK.out _ _ (by exact HCE.out _ _ _ (by first | exact Mq.out | exact Mr.out)) (fun hHeld => ?_)
        clear hK K
        refine wpAnyH_ready (rs := [16]) (by kernel_rfl) (by simp) ?_
        refine (AllReadyH.cons rfl (fun K hK => ?_) AllReadyH.nil)
        refine step_convS rfl _ _ _ rfl _ _ rfl HCG.out ?_
        refine hK.out _ _ (by exact HCE.out _ _ _ (by first | exact Mq.out | exact Mr.out)) (fun hHeld => ?_)
        clear hK K
        refine wpAnyH_take (i := 17) (v := ?_) rfl (by kernel_rfl) (by kernel_rfl) (by kernel_rfl) (fun _ _ _ h => h) (Or.inl ⟨by rfl, ?_⟩) (by assumption) ?_
        rotate_left
        · intro w hSw; (try dsimp only at hSw); go_split_ands; go_simp; with_reducible rfl
        change wpAnyH _ _ _ _ _ _ _ (Act.put _ (some 52) _) _
        simp only [Act.put, List.setIfInBounds_toArray, List.set_cons_zero, List.set_cons_succ, Array.toArray_toList]
        refine wpAnyH_take (i := 18) (v := ?_) rfl (by kernel_rfl) (by kernel_rfl) (by kernel_rfl) (fun _ _ _ h => h) (Or.inl ⟨by rfl, ?_⟩) (by assumption) ?_
        rotate_left
        · intro w hSw; (try dsimp only at hSw); go_split_ands; go_simp; with_reducible rfl
        change wpAnyH _ _ _ _ _ _ _ (Act.put _ (some 3) _) _
        simp only [Act.put, List.setIfInBounds_toArray, List.set_cons_zero, List.set_cons_succ, Array.toArray_toList]
        refine wpAnyH_done (by kernel_rfl) ?_ _
        have d3 := (HCE.out _ _ _ Mr.out).1
        clear hHeld K0 Mq
        go_wp2_with fail
        go_roundg (L - (k' + 1))
        case measure => exact meas hk hlt
        case rel => exact ⟨k' + 1, T', meas2 hlt, by go_num, rfl, Lib.hid HT1.out.symm, by omega, Mr.out⟩
      · obtain rfl : k' = L := by omega
        have HT2 := Lib.hid (show T = S from by
          rw [ht.out, List.take_of_length_le (by rw [HL.out]; exact Nat.le_refl _)]
          exact HBS.out)
        have d3 := (HCE.out _ _ _ hm).2.2.2
        have Mq := Lib.hid hm
        clear ht hz hm hlt hk
        go_wp2_with fail
        go_ret
        exact ⟨by rw [HT2.out]; rfl, Mq.out.bel⟩
end Go.Proofs.YtnopmdhjamkoaaaDoor
