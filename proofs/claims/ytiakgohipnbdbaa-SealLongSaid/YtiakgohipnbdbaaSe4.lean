/- Package seal: contract of tag. -/
import Derived.Test.YtiakgohipnbdbaaSe1
namespace Go.Proofs.Ytiakgohipnbdbaa
set_option linter.unusedVariables false
set_option linter.unusedSimpArgs false
open Go.RowKit

/-- What was gathered of the parts: lengths and parts. -/
structure TgL (w wr : World) (v : Value) (ls : List (List UInt8)) : Prop where
  m : ∃ (qs : List Pt) (rs : List Ro), Mst w wr [(w.heap.size, 119, Y32)] (⟨24, 1, v, qs.length, qs.map Pt.v⟩ :: rs) ∧ qs.map Pt.l = framesL ls ∧ ∀ q ∈ qs, Src w [] rs 1 q.A q.l.length (by8 q.l)
theorem framesL_take {ps : List Pt} {k : Nat} {p : Pt} (h : ps[k]? = some p) : framesL ((ps.take (k + 1)).map Pt.l) = framesL ((ps.take k).map Pt.l) ++ [len4 p.l.length, p.l] := by
  have e2 : ps.take (k + 1) = ps.take k ++ [p] := by
    rw [List.take_add_one, h]; rfl
  rw [e2, List.map_append]
  exact framesL_snoc _ _

set_option maxRecDepth 100000 in
set_option maxHeartbeats 1600000 in
theorem stag_any (w : World) (gk : Nat) (kb : List UInt8) (hk : KeyW w gk kb) (hkl : kb.length ≤ 1000) (A1 : Option Addr) (c1 : Nat) (ps : List Pt) (hp : Pts w A1 ps) (hn : ps.length ≤ 10) (hpl : ∀ p ∈ ps, p.l.length ≤ 70000) :
    Calls Try.prog 70 #[.pointer (some ⟨gk, 0, none⟩), .slice A1 ps.length c1] w fun e w' => e = .returned (.agg (b8a (macT (bindK kb) (frameB (ps.map Pt.l))))) ∧ Below w.heap.size w w' := by
  have HD := Lib.hid (show ∀ w', Below w.heap.size w w' → Calls Try.prog 75 #[.pointer (some ⟨gk, 0, none⟩), .string bindS, .slice none 0 0] w' fun e w2 => ∃ gk', e = .returned (.pointer (some ⟨gk', 0, none⟩)) ∧ KeyW w2 gk' (bindK kb) ∧ Below w'.heap.size w' w2 from fun w' hb => kderive_any w' gk kb (hk.keep hb) (by omega) bindS (by decide) none 0 [] ⟨Rd.nil_ _ _ _ _, by simp⟩ (by simp) (by simp))
  obtain ⟨kd, hkd⟩ : ∃ k, bindK kb = k := ⟨_, rfl⟩
  have hkdl : kd.length = 32 := by rw [← hkd]; rfl
  rw [hkd] at HD ⊢
  obtain ⟨K2, hK2⟩ : ∃ K, macT kd (frameB (ps.map Pt.l)) = K := ⟨_, rfl⟩
  have hKl2 : K2.length = 32 := by rw [← hK2]; rfl
  rw [hK2]
  obtain ⟨n, hN⟩ : ∃ n, ps.length = n := ⟨_, rfl⟩
  have HFL := Lib.hid (show (frameB (ps.map Pt.l)).length ≤ 800000 from by
    have := frameP_len ps 70000 hpl n
    rw [← hN, List.take_of_length_le (Nat.le_refl _)] at this
    have : ps.length * (4 + 70000) ≤ 10 * 70004 := Nat.mul_le_mul hn (by omega)
    omega)
  have HTG := Lib.hid (show ∀ w' gk' A' c' (qs : List Pt), KeyW w' gk' kd → Pts w' A' qs → qs.map Pt.l = framesL (ps.map Pt.l) → qs.length ≤ 100 → Calls Try.prog 76 #[.pointer (some ⟨gk', 0, none⟩), .slice A' qs.length c'] w' fun e w2 => e = .returned (.agg (b8a K2)) ∧ Below w'.heap.size w' w2 from fun w' gk' A' c' qs h1 h2 h3 h4 => by
    have hc : catP qs = frameB (ps.map Pt.l) := by rw [catP_map, h3]; rfl
    have := ktag_any w' gk' kd h1 (by omega) A' c' qs h2 (by omega) (by rw [hc]; exact HFL.out)
    rw [hc, hK2] at this
    exact this)
  rw [hN] at hn ⊢
  have HN := Lib.hid hN
  have HP := Lib.hid hp
  have HPL := Lib.hid hpl
  have KL2 := Lib.hid hKl2
  have M0 := Lib.hid ((Mst.start w).new 119 Y32)
  clear hk hp hpl hN hkd hkdl hK2 hKl2 HFL
  go_enter Try.func70, Try.ntmps70
  go_wp2_with fail
  go_loopg [10, 5] n (fun gk s10 s5 wr => ∃ k : Nat, k + gk = n ∧ s10 = .int .i64 k ∧ TgL w wr s5 ((ps.take k).map Pt.l))
  case atStart => exact ⟨0, by omega, rfl, ⟨[], [], M0.out.nilrow _ _, rfl, by simp⟩⟩
  case round =>
    obtain ⟨k, hk, rfl, ⟨qs, rs, hm, hq1, hq2⟩⟩ := hrel
    have hql : qs.length = 2 * k := by
      rw [← List.length_map (f := Pt.l), hq1, framesL_len, List.length_map, List.length_take]
      have := HN.out
      omega
    obtain ⟨N, hNq⟩ : ∃ N, qs.length = N := ⟨_, rfl⟩
    obtain ⟨QV, hQV⟩ : ∃ Q, qs.map Pt.v = Q := ⟨_, rfl⟩
    rw [hNq] at hql
    rw [hNq, hQV] at hm
    have HQ1 := Lib.hid hq1
    have HQ2 := Lib.hid hq2
    have HNQ := Lib.hid hNq
    have HQV := Lib.hid hQV
    obtain ⟨A3, c3, rfl, _⟩ := own_form (hm.row [])
    have hq20 : N ≤ 2 * n := by omega
    clear hq1 hq2 hNq hQV hql
    by_cases hlt : k < n
    · obtain ⟨p, hpk⟩ : ∃ p, ps[k]? = some p := ⟨_, List.getElem?_eq_getElem (by have := HN.out; omega)⟩
      obtain ⟨b, o, rfl, hbw, hcell⟩ := HP.out.at_ (by have := HN.out; omega)
      have c00 := hcell k p hpk
      have hpm := List.mem_of_getElem? hpk
      have hpl := HPL.out p hpm
      have HRP := Lib.hid (show RB w w.heap.size p.A p.l from HP.out.2 p hpm)
      have HFT := Lib.hid (framesL_take hpk)
      obtain ⟨pA, pc, pl⟩ := p
      obtain ⟨m, hm4⟩ : ∃ n, pl.length = n := ⟨_, rfl⟩
      unfold Pt.v at c00
      simp only at c00 hpl
      rw [hm4] at c00 hpl
      have c0 := hm.old hbw c00
      have HM4 := Lib.hid hm4
      have H4 := Lib.hid (four_any m (by omega))
      have HM := Lib.hid hm
      clear c00 hcell hpm hpk hm4 hm
      go_wp2_with fail
      refine (H4.out _).mono ?_
      rintro e w2 ⟨g2, rfl, hf⟩
      have M2 := Lib.hid (HM.out.addr hf)
      have M3 := Lib.hid (M2.out.newrow 24 1 2 2 #[.slice (some ⟨g2, 0, none⟩) 4 4, .slice pA m pc] (Nat.le_refl _) (by decide) rfl)
      clear hf
      go_wp2_with (at_builtin; refine wpList_appE rfl _ _ 46 rfl [_, _] M3.out el_bs rfl _ _ 2 2 _ rfl (M3.out.src (M3.out.rowSrc (List.mem_cons_self ..))) (by simp [Value.oneCell']) (by unfold maxLen; omega) (by omega) ?_; intro A5 c5 w5 N5 X5 hn5 hx5 mq; have M5 := Lib.hid mq; have HN5 := Lib.hid hn5; have HX5 := Lib.hid hx5; clear mq hn5 hx5)
      go_roundg (n - (k + 1))
      case measure => exact meas hk hlt
      case rel => exact ⟨k + 1, meas2 hlt, by go_num, ⟨qs ++ [⟨some ⟨g2, 0, none⟩, 4, len4 m⟩, ⟨pA, pc, pl⟩], _, by
        have h1 : N5 = (qs ++ [(⟨some ⟨g2, 0, none⟩, 4, len4 m⟩ : Pt), ⟨pA, pc, pl⟩]).length := by rw [HN5.out, List.length_append, HNQ.out]; rfl
        have h2 : X5 = (qs ++ [(⟨some ⟨g2, 0, none⟩, 4, len4 m⟩ : Pt), ⟨pA, pc, pl⟩]).map Pt.v := by rw [HX5.out, List.map_append, HQV.out]; simp only [List.map_cons, List.map_nil, Pt.v, HM4.out]; rfl
        rw [← h1, ← h2]
        exact M5.out.frontr [_, _], by
        have h3 := HFT.out
        simp only [HM4.out] at h3
        rw [List.map_append, HQ1.out, h3]
        rfl, by
        intro q hq
        rcases List.mem_append.1 hq with hq | hq
        · exact (HQ2.out q hq).sub (fun _ h => h) (fun y hy => List.mem_cons_of_mem _ (List.mem_cons_of_mem _ hy))
        · rcases List.mem_cons.1 hq with rfl | hq
          · exact (M2.out.sub (List.nil_sublist _) (ow' := [⟨5, 1, .slice (some ⟨g2, 0, none⟩) 4 4, 4, by8 (len4 m)⟩]) (List.Sublist.cons_cons _ (List.nil_sublist _)) |>.rowSrc (e := 5) (c := 4) (List.mem_cons_self ..)).sub (fun _ h => h) (fun y hy => by
              rcases List.mem_cons.1 hy with rfl | hy
              · simp
              · cases hy)
          · rcases List.mem_cons.1 hq with rfl | hq
            · exact Src.old HRP.out
            · cases hq⟩⟩
    · obtain rfl : k = n := by omega
      have ht : ps.take k = ps := List.take_of_length_le (by have := HN.out; omega)
      have hq1 := HQ1.out
      rw [ht] at hq1
      have HQ3 := Lib.hid hq1
      have HM := Lib.hid hm
      clear hm ht hq1 HQ1
      have HD2 := Lib.hid (HD.out wr HM.out.bel)
      go_wp2_with fail
      refine HD2.out.mono ?_
      rintro e w3 ⟨gk', rfl, hkw, hb⟩
      have M3 := Lib.hid (HM.out.below hb)
      have HT := HTG.out w3 gk' A3 c3 qs hkw ⟨by have := own_rd (M3.out.row []); rw [HNQ.out, HQV.out]; exact this, fun q hq => M3.out.src ((HQ2.out q hq).sub (fun _ h => nomatch h) (fun y hy => List.mem_cons_of_mem _ hy))⟩ HQ3.out (by rw [HNQ.out]; omega)
      rw [HNQ.out] at HT
      have HT := Lib.hid HT
      clear hkw hb HM
      go_wp2_with fail
      refine HT.out.mono ?_
      rintro e w4 ⟨rfl, hb⟩
      have M4 := Lib.hid (M3.out.below hb)
      clear hb
      go_wp2_with (first | refine wpList_store_row rfl _ _ _ rfl w.heap.size (b8a K2) rfl rfl 119 _ (M4.out.blk []) (info_k KL2.out) (y32_k KL2.out) (b8a_one K2) ?_)
      simp only [Act.put]
      exact bodyPost_ret (results_cell_row rfl _ _ w.heap.size 119 _ (0, 0) _ rfl (setRow_heap _ _ _ _ _ _ (M4.out.blk [])) Try.underlying119 rfl (info_k KL2.out)) rfl ⟨rfl, (Mst.setRow (bl := []) [] M4.out (b8a K2)).bel⟩
end Go.Proofs.Ytiakgohipnbdbaa
