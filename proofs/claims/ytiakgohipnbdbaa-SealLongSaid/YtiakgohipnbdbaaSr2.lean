/- The document's seal: contracts of Turned and tag. -/
import Derived.Test.YtiakgohipnbdbaaSe5
namespace Go.Proofs.Ytiakgohipnbdbaa
set_option linter.unusedVariables false
set_option linter.unusedSimpArgs false
open Go.RowKit

structure RtL (w wr : World) (v : Value) (l : List UInt8) : Prop where
  m : Mst w wr [] [⟨5, 1, v, l.length, by8 l⟩]
theorem trn_take {b s : List UInt8} (h : b.length ≤ s.length) {k : Nat} (hk : k < b.length) : (trn b s).take (k + 1) = (trn b s).take k ++ [b.getD k 0 ^^^ s.getD k 0] := by
  have h2 : (trn b s)[k]? = some (b.getD k 0 ^^^ s.getD k 0) := by
    simp only [trn, List.getElem?_zipWith]
    rw [List.getElem?_eq_getElem hk, List.getElem?_eq_getElem (show k < s.length by omega)]
    simp [List.getD_eq_getElem?_getD, List.getElem?_eq_getElem hk, List.getElem?_eq_getElem (show k < s.length by omega)]
  rw [List.take_add_one, h2]
  rfl

set_option maxRecDepth 100000 in
set_option maxHeartbeats 1600000 in
theorem refturned_any (w : World) (A : Option Addr) (c : Nat) (b : List UInt8) (hr : RB w w.heap.size A b) (A' : Option Addr) (c' : Nat) (s : List UInt8) (hr' : RB w w.heap.size A' s) (hl : b.length ≤ s.length) (hn : b.length ≤ 100000) :
    Calls Try.prog 73 #[.slice A b.length c, .slice A' s.length c'] w (RetB w b.length (trn b s)) := by
  have htl := trn_len hl
  have HTK := Lib.hid (fun k h => trn_take hl (k := k) h)
  obtain ⟨TR, hTR⟩ : ∃ l, trn b s = l := ⟨_, rfl⟩
  rw [hTR] at htl HTK ⊢
  obtain ⟨n, hN⟩ : ∃ n, b.length = n := ⟨_, rfl⟩
  obtain ⟨m, hM⟩ : ∃ n, s.length = n := ⟨_, rfl⟩
  have HR := Lib.hid hr
  have HR' := Lib.hid hr'
  have HN := Lib.hid hN
  have HM := Lib.hid hM
  rw [hN] at hn hl htl HTK ⊢
  rw [hM] at hl ⊢
  have HTL := Lib.hid htl
  have SC := fun x => (Value.cells.eq_def (Bv x)).symm.trans (Bv_cells x)
  have BX := fun x y w => Bv_xor (P := Try.prog) 5 x y w
  clear hr hr' hN hM hTR htl
  go_enter Try.func73, Try.ntmps73
  go_wp2_with fail
  go_loopg [6, 5] n (fun gk s6 s5 wr => ∃ k : Nat, k + gk = n ∧ s6 = .int .i64 k ∧ RtL w wr s5 (TR.take k))
  case atStart => exact ⟨0, by omega, rfl, ⟨(Mst.start w).nilrow _ _⟩⟩
  case round =>
    obtain ⟨k, hk, rfl, ⟨hm⟩⟩ := hrel
    have hkl : (TR.take k).length = k := by rw [List.length_take, HTL.out]; omega
    obtain ⟨F, hF⟩ : ∃ F, TR.take k = F := ⟨_, rfl⟩
    rw [hF] at hkl hm
    obtain ⟨L, hL⟩ : ∃ L, F.length = L := ⟨_, rfl⟩
    rw [hL] at hkl hm
    obtain ⟨A3, c3, rfl, _⟩ := own_form (hm.row [])
    by_cases hlt : k < n
    · obtain ⟨b0, o0, rfl, hb0, hc0⟩ := HR.out.at_ (by have := HN.out; omega)
      obtain ⟨b1, o1, rfl, hb1, hc1⟩ := HR'.out.at_ (by have := HM.out; omega)
      have C0 := Lib.hid (show w.cell? ⟨b0, o0 + k, none⟩ = some (Bv (b.getD k 0)) from hc0 k _ (getD_at (by have := HN.out; omega)))
      have C1 := Lib.hid (show w.cell? ⟨b1, o1 + k, none⟩ = some (Bv (s.getD k 0)) from hc1 k _ (getD_at (by have := HM.out; omega)))
      have hst := HTK.out k hlt
      obtain ⟨x, hx⟩ : ∃ x, b.getD k 0 = x := ⟨_, rfl⟩
      obtain ⟨y, hy⟩ : ∃ x, s.getD k 0 = x := ⟨_, rfl⟩
      rw [hx, hy, hF] at hst
      rw [hx] at C0
      rw [hy] at C1
      have HST := Lib.hid hst
      have HL := Lib.hid hL
      have Mq := Lib.hid hm.drew
      have hkm : k < m := by omega
      have k0 : wr.drew.cell? ⟨b0, o0 + k, none⟩ = some (Bv x) ∧ wr.drew.cell? ⟨b1, o1 + k, none⟩ = some (Bv y) := ⟨Mq.out.old hb0 C0.out, Mq.out.old hb1 C1.out⟩
      have K0 := Lib.hid k0
      have hL1 : L ≤ 100000 := by omega
      clear hc0 hc1 hx hy hst hL hm hF k0 hkl
      go_upto_region 5 with fail
      refine wp_region_held_drew (S := fun w' => w'.cell? ⟨b0, o0 + k, none⟩ = some (Bv x) ∧ w'.cell? ⟨b1, o1 + k, none⟩ = some (Bv y)) (by kernel_rfl) ?_ (fun hHeld => ?_)
      · exact K0.out
      generalize World.drew wr = w7 at Mq hHeld ⊢
      refine wpAnyH_take (i := 0) (v := ?_) rfl (by kernel_rfl) (by kernel_rfl) (by kernel_rfl) (fun _ _ _ h => h) (Or.inl ⟨by rfl, ?_⟩) (by assumption) ?_
      rotate_left
      · intro w hSw; (try dsimp only at hSw); go_split_ands; go_simp; with_reducible rfl
      change wpAnyH _ _ _ _ _ _ _ (Act.put _ (some 13) _) _
      simp only [Act.put, List.setIfInBounds_toArray, List.set_cons_zero, List.set_cons_succ, Array.toArray_toList]
      refine wpAnyH_take (i := 1) (v := ?_) rfl (by kernel_rfl) (by kernel_rfl) (by kernel_rfl) (fun _ _ _ h => h) (Or.inl ⟨by rfl, ?_⟩) (by assumption) ?_
      rotate_left
      · intro w hSw; (try dsimp only at hSw); go_split_ands; go_simp; with_reducible rfl
      change wpAnyH _ _ _ _ _ _ _ (Act.put _ (some 14) _) _
      simp only [Act.put, List.setIfInBounds_toArray, List.set_cons_zero, List.set_cons_succ, Array.toArray_toList]
      refine wpAnyH_take (i := 2) (v := ?_) rfl (by kernel_rfl) (by kernel_rfl) (by kernel_rfl) (fun _ _ _ h => h) (Or.inl ⟨by rfl, ?_⟩) (by assumption) ?_
      rotate_left
      · intro w hSw; (try dsimp only at hSw); go_split_ands; go_simp; with_reducible rfl
      change wpAnyH _ _ _ _ _ _ _ (Act.put _ (some 15) _) _
      simp only [Act.put, List.setIfInBounds_toArray, List.set_cons_zero, List.set_cons_succ, Array.toArray_toList]
      refine wpAnyH_take (i := 3) (v := ?_) rfl (by kernel_rfl) (by kernel_rfl) (by kernel_rfl) (fun _ _ _ h => h) (Or.inl ⟨by rfl, ?_⟩) (by assumption) ?_
      rotate_left
      · intro w hSw; (try dsimp only at hSw); go_split_ands; go_simp; with_reducible rfl
      change wpAnyH _ _ _ _ _ _ _ (Act.put _ (some 16) _) _
      simp only [Act.put, List.setIfInBounds_toArray, List.set_cons_zero, List.set_cons_succ, Array.toArray_toList]
      refine wpAnyH_take (i := 4) (v := ?_) rfl (by kernel_rfl) (by kernel_rfl) (by kernel_rfl) (fun _ _ _ h => h) (Or.inl ⟨by rfl, ?_⟩) (by assumption) ?_
      rotate_left
      · intro w hSw; (try dsimp only at hSw); go_split_ands; go_simp; with_reducible rfl
      change wpAnyH _ _ _ _ _ _ _ (Act.put _ (some 17) _) _
      simp only [Act.put, List.setIfInBounds_toArray, List.set_cons_zero, List.set_cons_succ, Array.toArray_toList]
      refine wpAnyH_take (i := 5) (v := ?_) rfl (by kernel_rfl) (by kernel_rfl) (by kernel_rfl) (fun _ _ _ h => h) (Or.inl ⟨by rfl, ?_⟩) (by assumption) ?_
      rotate_left
      · intro w hSw; (try dsimp only at hSw); go_split_ands; go_simp; with_reducible rfl
      change wpAnyH _ _ _ _ _ _ _ (Act.put _ (some 18) _) _
      simp only [Act.put, List.setIfInBounds_toArray, List.set_cons_zero, List.set_cons_succ, Array.toArray_toList]
      refine wpAnyH_take (i := 6) (v := ?_) rfl (by kernel_rfl) (by kernel_rfl) (by kernel_rfl) (fun _ _ _ h => h) (Or.inl ⟨by rfl, ?_⟩) (by assumption) ?_
      rotate_left
      · intro w hSw; (try dsimp only at hSw); go_split_ands; go_simp; with_reducible rfl
      change wpAnyH _ _ _ _ _ _ _ (Act.put _ (some 19) _) _
      simp only [Act.put, List.setIfInBounds_toArray, List.set_cons_zero, List.set_cons_succ, Array.toArray_toList]
      refine wpAnyH_take (i := 7) (v := ?_) rfl (by kernel_rfl) (by kernel_rfl) (by kernel_rfl) (fun _ _ _ h => h) (Or.inl ⟨by rfl, ?_⟩) (by assumption) ?_
      rotate_left
      · intro w hSw; (try dsimp only at hSw); go_split_ands; go_simp; with_reducible rfl
      change wpAnyH _ _ _ _ _ _ _ (Act.put _ (some 20) _) _
      simp only [Act.put, List.setIfInBounds_toArray, List.set_cons_zero, List.set_cons_succ, Array.toArray_toList]
      refine wpAnyH_take (i := 8) (v := ?_) rfl (by kernel_rfl) (by kernel_rfl) (by kernel_rfl) (fun _ _ _ h => h) (Or.inl ⟨by rfl, ?_⟩) (by assumption) ?_
      rotate_left
      · intro w hSw; (try dsimp only at hSw); go_split_ands; go_simp; with_reducible rfl
      change wpAnyH _ _ _ _ _ _ _ (Act.put _ (some 21) _) _
      simp only [Act.put, List.setIfInBounds_toArray, List.set_cons_zero, List.set_cons_succ, Array.toArray_toList]
      refine wpAnyH_take (i := 9) (v := ?_) rfl (by kernel_rfl) (by kernel_rfl) (by kernel_rfl) (fun _ _ _ h => h) (Or.inl ⟨by rfl, ?_⟩) (by assumption) ?_
      rotate_left
      · intro w hSw; (try dsimp only at hSw); go_split_ands; go_simp; with_reducible rfl
      change wpAnyH _ _ _ _ _ _ _ (Act.put _ (some 22) _) _
      simp only [Act.put, List.setIfInBounds_toArray, List.set_cons_zero, List.set_cons_succ, Array.toArray_toList]
      refine wpAnyH_ready (rs := [10]) (by kernel_rfl) (by simp) ?_
      refine (AllReadyH.cons rfl (fun K hK => ?_) AllReadyH.nil)
      go_simp; generalize hwq : World.alloc _ _ = wq; obtain ⟨g12, hg12, mq⟩ := Mq.out.oneX hwq; rw [hg12]; have Mq := Lib.hid mq; clear hwq hg12 mq
      refine hK.out _ _ (by exact ⟨Mq.out.old hb0 C0.out, Mq.out.old hb1 C1.out⟩) (fun hHeld => ?_)
      clear hK K
      refine wpAnyH_ready (rs := [11]) (by kernel_rfl) (by simp) ?_
      refine (AllReadyH.cons rfl (fun K hK => ?_) AllReadyH.nil)
      refine step_appE rfl _ _ 24 rfl [_] Mq.out el_u8c rfl _ (some ⟨g12, 0, none⟩) 1 1 _ rfl (Mq.out.src (Mq.out.rowSrc (List.mem_cons_self ..))) (one1 _ rfl) (by unfold maxLen; omega) (by omega) ?_; intro A7 c7 w8 N7 X7 hn7 hx7 mq; have Mq := Lib.hid mq; have HN7 := Lib.hid hn7; have HX7 := Lib.hid hx7; clear mq hn7 hx7
      refine hK.out _ _ (by exact ⟨Mq.out.old hb0 C0.out, Mq.out.old hb1 C1.out⟩) (fun hHeld => ?_)
      clear hK K
      refine wpAnyH_take (i := 12) (v := ?_) rfl (by kernel_rfl) (by kernel_rfl) (by kernel_rfl) (fun _ _ _ h => h) (Or.inl ⟨by rfl, ?_⟩) (by assumption) ?_
      rotate_left
      · intro w hSw; (try dsimp only at hSw); go_split_ands; go_simp; with_reducible rfl
      change wpAnyH _ _ _ _ _ _ _ (Act.put _ (some 5) _) _
      simp only [Act.put, List.setIfInBounds_toArray, List.set_cons_zero, List.set_cons_succ, Array.toArray_toList]
      refine wpAnyH_done (by kernel_rfl) ?_ _
      clear hHeld K0
      go_wp2_with fail
      go_roundg (n - (k + 1))
      case measure => exact meas hk hlt
      case rel => exact ⟨k + 1, meas2 hlt, by go_num, ⟨by
        rw [HST.out, ← show N7 = (F ++ [x ^^^ y]).length by rw [HN7.out, List.length_append, HL.out]; rfl, ← show X7 = by8 (F ++ [x ^^^ y]) by rw [HX7.out, by8_append]; rfl]
        exact Mq.out.dropr⟩⟩
    · obtain rfl : k = n := by omega
      have hTF : TR = F := by rw [← hF, List.take_of_length_le (by rw [HTL.out]; exact Nat.le_refl _)]
      have hLk : L = k := hkl
      have hcc := own_cap (hm.row [])
      have HNB := Lib.hid (NewB.of_own (hm.row []))
      have HB2 := Lib.hid hm.bel
      rw [← hTF] at HNB
      obtain ⟨hcc1, hcc2⟩ := hcc
      subst hLk
      clear hm hF hL hTF
      go_wp2_with fail
      go_ret
      exact ⟨A3, c3, rfl, hcc1, hcc2, HB2.out, HNB.out⟩
end Go.Proofs.Ytiakgohipnbdbaa
