/-
  vigillaw14.PacketTurns returns true, whatever it is called with. Conditions: none but that the slices can be read.
-/
import Derived.Test.YtnbemfceoianiaaPkD
import Derived.Test.YtnbemfceoianiaaPkA
import Derived.Test.YtnbemfceoianiaaPk9
import Derived.Test.YtnbemfceoianiaaPkE
import Derived.Test.YtnbemfceoianiaaPkC
import Derived.Test.YtnbemfceoianiaaMod
import Derived.Test.YtnbemfceoianiaaOpen5
namespace Go.Proofs.Ytnbemfceoianiaa
set_option linter.unusedVariables false
set_option linter.unusedSimpArgs false
open Go.RowKit

section
open Go.ChangeShapes Go.WideShapes Go.ChangeAt Go.RowKit Go.Deep
theorem open_u8 {H : Type} {enc : TypeId × Value → H} {P : Program} {W : World} {r : Reach} {b0 : Nat} {t : TypeId} {v : Value} {d : DataW H} {ps : List MemPlace} (ht : P.underlying t = some (.int .u8)) (hval : Value.okWide P W r b0 t v) (h : DataW.Trod enc P W 0 (fun _ => true) true t v d ps) : ∃ b : UInt8, v = .int .u8 (b.toNat : Int) := by
  obtain ⟨a, rfl, _, _, w⟩ := open_int ht hval h
  have : 0 ≤ a ∧ a ≤ 255 := by simpa [Lit.wf, IntKind.min, IntKind.max, IntKind.signed, IntKind.bits] using w
  exact ⟨UInt8.ofNat a.toNat, by simp; omega⟩
end
theorem chk_tag2 {p : Pk} (h : ¬ (p.k = 1 ∨ p.k = 2)) : chkP { p with T := Z32 } = chkP p := by
  unfold chkP
  by_cases h1 : p.k < 1 ∨ 14 < p.k
  · rw [if_pos h1, if_pos h1]
  · rw [if_neg h1, if_neg h1]
    have h3 : ¬ (p.k < 3) := by omega
    simp only [h3, false_and, if_false]
/-- The bytes of such a slice, one by one; one is written. -/
theorem FrB.at {B : Nat} {w : World} {v : Value} {l : List UInt8} (h : FrB B w v l) : ∃ g c, v = .slice (some ⟨g, 0, none⟩) l.length c ∧ ∀ J, J < l.length → w.frozen? ⟨g, J, none⟩ = false ∧ w.cell? ⟨g, J, none⟩ = some (Bv (l.getD J 0)) ∧ ∀ x : UInt8, RB (w.setCell ⟨g, J, none⟩ (Bv x)) (w.setCell ⟨g, J, none⟩ (Bv x)).heap.size (some ⟨g, 0, none⟩) (l.set J x) ∧ ∀ w0 : World, w0.heap.size = B → Below B w0 w → Below B w0 (w.setCell ⟨g, J, none⟩ (Bv x)) := by
  obtain ⟨g, c, rfl, h1, h2, h3, h4, h5, h6⟩ := h
  refine ⟨g, c, rfl, fun J hJ => ?_⟩
  have hc := h5 J _ (by8_getD hJ)
  refine ⟨(h6 J (by omega)).2, hc, fun x => ⟨⟨by simp [by8], fun _ => ⟨g, 0, rfl, ?_, fun j u hu => ?_⟩⟩, fun w0 h0 hb => ?_⟩⟩
  · exact Nat.lt_of_lt_of_le h2 ((On.refl w g).set (p := ⟨g, J, none⟩) (.inl rfl) (Bv x)).size
  · rw [Nat.zero_add]
    rw [by8_set, List.getElem?_set] at hu
    by_cases hj : J = j
    · subst hj
      rw [if_pos rfl, if_pos (by simpa [by8] using hJ)] at hu
      injection hu with hu
      subst hu
      exact World.cell?_setCell_same' _ _ _ (by rw [hc]; rfl)
    · rw [if_neg hj] at hu
      rw [World.cell?_setCell_other (h := by intro e; injection e with _ e; exact hj e)]
      exact h5 j u hu
  · exact hb.trans (((On.refl w g).set (p := ⟨g, J, none⟩) (.inl rfl) (Bv x)).below h1 (h0 ▸ hb.size))
theorem eqP_hd {p q : Pk} (h : eqP p q = true) : hdB p ++ p.T = hdB q ++ q.T := by
  simp only [eqP, eq4, eq2, Bool.and_eq_true, beq_iff_eq, decide_eq_true_eq] at h
  obtain ⟨h1, ⟨h2, h3, h4, h5⟩, h6, ⟨h7, h8⟩, h9, h10⟩ := h
  simp only [hdB, h1, h2, h3, h4, h5, h6, h7, h8, h9, h10]
theorem pkR_A (l : List UInt8) (A : Option Addr) (c : Nat) : (pkR l A c).A = A := by simp only [pkR]
theorem pkR_l (l : List UInt8) (A : Option Addr) (c : Nat) : (pkR l A c).l = bB (ps5 l) 512 := by simp only [pkR]
theorem xor_or1 (u y : UInt8) : u ^^^ (y ||| 1) ≠ u := by
  revert u y
  have h : ∀ u y : BitVec 8, u ^^^ (y ||| 1#8) ≠ u := by
    intro u y e
    have h1 := congrArg (fun b : BitVec 8 => b.getLsbD 0) e
    simp at h1
  intro u y e
  exact h u.toBitVec y.toBitVec (by have := congrArg UInt8.toBitVec e; simpa using this)
theorem set_ne {l : List UInt8} {J : Nat} {x : UInt8} (hJ : J < l.length) (h : x ≠ l.getD J 0) : l.set J x ≠ l := by
  intro e
  have h1 := congrArg (fun l : List UInt8 => l.getD J 0) e
  simp only [List.getD_eq_getElem?_getD, List.getElem?_set_self hJ, Option.getD_some] at h1
  apply h
  rw [List.getD_eq_getElem?_getD]
  exact h1
set_option maxRecDepth 100000 in
set_option maxHeartbeats 16000000 in
theorem packetTurns_main (W : World) (p : Pk) (hT : p.T.length = 32) (hr : RB W W.heap.size p.A p.l) (hc : p.l.length ≤ p.cp) (hcm : p.cp ≤ 9223372036854775807) (A : Option Addr) (c : Nat) (l : List UInt8) (hk : RB W W.heap.size A l) (hkc : l.length ≤ c) (hkm : c ≤ 9223372036854775807) (pos : Int) (y : UInt8) :
    Calls Try.prog 4 #[.agg (pkc p), .slice A l.length c, .int .i64 pos, Bv y] W fun e W' => e = .returned (.bool true) ∧ Below W.heap.size W W' := by
  have m1 := (Mst.start W).new 29 (pkc p)
  have M1 := Lib.hid m1
  obtain ⟨N, hN⟩ : ∃ N, (p.l.take 520).length = N := ⟨_, rfl⟩
  have HTO := Lib.hid (show ∀ w' bl ow, Mst W w' bl ow → _ from fun w' bl ow h => to14_any W w' bl ow h p hT (Src.old hr) hc hcm N hN)
  have HT := Lib.hid hT
  have hN5 : N ≤ 520 := by rw [← hN]; simp; omega
  have HNL := Lib.hid hN
  obtain ⟨M, hM⟩ : ∃ n, l.length = n := ⟨_, rfl⟩
  have hr2 := hk.cut 70
  obtain ⟨n, hn, n2, n1⟩ := cut_n M 70
  obtain ⟨l', hl'⟩ : ∃ l', l.take 70 = l' := ⟨_, rfl⟩
  have hln : l'.length = n := by rw [← hl', List.length_take]; omega
  rw [hl'] at hr2
  have hmin1 : min (M : Int) 70 = n := hn.symm
  have n4 : (0 : Int) ≤ n := by omega
  have n5 : (n : Int) ≤ c := by omega
  have HLN := Lib.hid hln
  have R1 := Lib.hid (show RB W W.heap.size A l' from hr2)
  rw [hM] at hkc ⊢
  obtain ⟨KT, hKT⟩ := rsum_ex
  have HKT := Lib.hid hKT
  have HMK := Lib.hid hKT.make
  have HNW := Lib.hid (show ∀ w' bl ow, Mst W w' bl ow → Calls Try.prog 7 #[.slice A n c] w' fun e w2 => ∃ gk A' c', e = .returned (.pointer (some ⟨gk, 0, none⟩)) ∧ Mst W w2 ((gk, 66, #[.slice A' n c']) :: bl) (⟨5, 1, .slice A' n c', n, by8 l'⟩ :: ow) from fun w' bl ow h => by
    have q := new_M W w' bl ow h A c l' (R1.out.keep h.bel) (by rw [HLN.out]; omega)
    rw [HLN.out] at q
    exact q)
  clear m1 hT hr hc hcm hN hk hkm hr2 hn hl' hln hM hKT
  go_enter Try.func4, Try.ntmps4
  have Mq := M1
  clear M1
  go_wp2_with fail
  with_reducible refine (HNW.out _ _ _ Mq.out).mono ?_
  rintro r w4 ⟨gk, Ak, ck, rfl, hm⟩
  have Mq := Lib.hid hm
  clear hm HNW
  go_wp2_with (first | refine wpList_loadG (by first | rfl | kernel_rfl) _ _ rfl (W.heap.size) 0 rfl (pkc p) _ (pkc_whole (Mq.out.bk (W.heap.size, 29, pkc p) (by simp)).1) Try.underlying29 rfl (info_rpk HT.out) ?_)
  with_reducible refine (HTO.out _ _ _ Mq.out).mono ?_
  rintro r w1 ⟨Ab, cb, rfl, hm⟩
  obtain ⟨X, hX⟩ : ∃ X : Pk, { p with A := Ab, l := p.l.take 520, cp := cb } = X := ⟨_, rfl⟩
  rw [hX]
  have HTX := Lib.hid (show X.T.length = 32 from by rw [← hX]; exact HT.out)
  have HXL := Lib.hid (show X.l.length = N from by rw [← hX]; exact HNL.out)
  have hm2 : Mst W w1 [(gk, 66, #[Value.slice Ak n ck]), (W.heap.size, 29, pkc p)] [⟨5, 1, .slice X.A N X.cp, N, by8 X.l⟩, ⟨5, 1, .slice Ak n ck, n, by8 l'⟩] := by rw [← hX]; exact hm
  have Mq := Lib.hid hm2
  clear hm hm2 hX HTO
  have HRB := Lib.hid (show ∀ w' bl ow', Mst W w' bl ow' → (⟨5, 1, .slice X.A N X.cp, N, by8 X.l⟩ : Ro) ∈ ow' → RB w' w'.heap.size X.A X.l from fun w' bl ow' h hm => by
    unfold RB
    rw [HXL.out]
    exact h.src (h.rowSrc hm))
  have HKW := Lib.hid (show ∀ w' bl ow', Mst W w' bl ow' → (gk, 66, #[Value.slice Ak n ck]) ∈ bl → (⟨5, 1, .slice Ak n ck, n, by8 l'⟩ : Ro) ∈ ow' → KeyW w' gk l' from fun w' bl ow' h hb hm => h.key hb HLN.out (h.rowSrc hm))
  have HKL := Lib.hid (show l'.length ≤ 100000 by rw [HLN.out]; omega)
  have HKN := Lib.hid (fun w' => known14_any w')
  have HZ0 := Lib.hid (show Pk0.T.length = 32 from rfl)
  by_cases hpl : X.k = 1 ∨ X.k = 2
  · have HTA := Lib.hid (fun w' => tagged_plain X HTX.out hpl gk w')
    clear hpl
    go_wp2_with fail
    with_reducible refine (HTA.out _).mono ?_
    rintro r w5 ⟨rfl, hb⟩
    have Mq := Lib.hid (Mq.out.below hb)
    clear hb
    go_upto_region 4 with (first | refine wpList_store_row rfl _ _ _ rfl w5.heap.size (pkc Pk0) rfl rfl 33 _ (Bk.mk_ _ _ _) (info_pk HZ0.out) (y41_k HZ0.out) (pkc_one _) ?_)
    generalize hw2 : World.setRow _ _ _ = wn
    obtain ⟨g8, hg5⟩ : ∃ b, w5.heap.size = b := ⟨_, rfl⟩
    have hm := (Mst.setRow (bl := []) [] (Mq.out.new 33 Y41) (pkc Pk0)).toVP hw2 rfl
    rw [hg5] at hm
    simp only [hg5]
    have Mq := Lib.hid hm
    clear hw2 hm hg5
    go_wp2_with fail
    with_reducible refine (HKN.out _).mono ?_
    rintro r w18 ⟨rfl, hb⟩
    have Mq := Lib.hid (Mq.out.below hb)
    clear hb
    go_wp2_with fail
    go_ret
    exact ⟨rfl, Mq.out.bel⟩
  · by_cases hC0 : chkP { X with T := Z32 } = 0
    · obtain ⟨Kt, hK⟩ : ∃ K, macT l' (hdB X) = K := ⟨_, rfl⟩
      have HTK := Lib.hid (show Kt.length = 32 by rw [← hK]; rfl)
      have HTA := Lib.hid (show ∀ w' bl ow', Mst W w' bl ow' → (gk, 66, #[Value.slice Ak n ck]) ∈ bl → (⟨5, 1, .slice Ak n ck, n, by8 l'⟩ : Ro) ∈ ow' → (⟨5, 1, .slice X.A N X.cp, N, by8 X.l⟩ : Ro) ∈ ow' → _ from fun w' bl ow' h hb hm hx => tagged_ok w' X HTX.out hpl hC0 (HRB.out w' bl ow' h hx) gk l' (HKW.out w' bl ow' h hb hm) HKL.out N HXL.out)
      rw [hK] at HTA
      have hCX : chkP X = 0 := (chk_tag2 hpl).symm.trans hC0
      have hl5 := (chkP_ok hCX).2.2.2.2.1
      rw [HXL.out] at hl5
      have hCX := Lib.hid hCX
      have hpl := Lib.hid hpl
      have hC0 := Lib.hid hC0
      clear hK
      go_wp2_with fail
      with_reducible refine (HTA.out _ _ _ Mq.out (by simp) (by simp) (by simp)).mono ?_
      rintro r w5 ⟨A9, c9, rfl, hf⟩
      obtain ⟨Z, hZ⟩ : ∃ Z : Pk, { X with A := A9, cp := c9, T := Kt } = Z := ⟨_, rfl⟩
      rw [hZ]
      have HTZ := Lib.hid (show Z.T.length = 32 by rw [← hZ]; exact HTK.out)
      have HZl := Lib.hid (show Z.l.length = N by rw [← hZ]; exact HXL.out)
      have HZc := Lib.hid (show chkP Z = 0 by
        have hz : chkP { Z with T := Z32 } = chkP Z := chk_tag2 (by rw [← hZ]; exact hpl.out)
        rw [← hz, ← hZ]
        exact hC0.out)
      have HRZ := Lib.hid (show ∀ w' bl ow', Mst W w' bl ow' → (⟨5, 1, .slice A9 N c9, N, by8 X.l⟩ : Ro) ∈ ow' → RB w' w'.heap.size Z.A Z.l from fun w' bl ow' h hm => by
        rw [← hZ]
        show Rd w' w'.heap.size 1 A9 X.l.length (by8 X.l)
        rw [HXL.out]
        exact h.src (h.rowSrc hm))
      have Mq := Lib.hid (Mq.out.addr hf)
      clear hf hZ HTA hC0 hCX hpl
      go_upto_region 4 with (first | refine wpList_store_row rfl _ _ _ rfl w5.heap.size (pkc Z) rfl rfl 33 _ (Bk.mk_ _ _ _) (info_pk HTZ.out) (y41_k HTZ.out) (pkc_one _) ?_)
      generalize hw2 : World.setRow _ _ _ = wn
      obtain ⟨g8, hg5⟩ : ∃ b, w5.heap.size = b := ⟨_, rfl⟩
      have hm := (Mst.setRow (bl := []) [] (Mq.out.new 33 Y41) (pkc Z)).toVP hw2 rfl
      rw [hg5] at hm
      simp only [hg5]
      have Mq := Lib.hid hm
      clear hw2 hm hg5
      have HBO := Lib.hid (show ∀ w' bl ow', Mst W w' bl ow' → (⟨5, 1, .slice A9 N c9, N, by8 X.l⟩ : Ro) ∈ ow' → _ from fun w' bl ow' h hm => pbytes_ok Z HTZ.out w' HZc.out (HRZ.out w' bl ow' h hm))
      obtain ⟨B, hB⟩ : ∃ B, hdB Z ++ Z.T = B := ⟨_, rfl⟩
      obtain ⟨L, hL⟩ : ∃ L, B.length = L := ⟨_, rfl⟩
      have hL5 : L = 52 + N := by rw [← hL, ← hB, List.length_append, hdB_len, HZl.out, HTZ.out]; omega
      have hLi : (52 : Int) ≤ L ∧ (L : Int) ≤ 600 := by omega
      clear hL5
      rw [hB] at HBO
      have HBB := Lib.hid hB
      have HLB := Lib.hid hL
      clear hB hL
      go_wp2_with (first | refine wpList_loadG (by first | rfl | kernel_rfl) _ _ rfl (g8) 0 rfl (pkc Z) _ (pkc_whole (Mq.out.bk (g8, 33, pkc Z) (by simp)).1) Try.underlying33 rfl (info_pk HTZ.out) ?_)
      with_reducible refine (HBO.out _ _ _ Mq.out (by simp)).mono ?_
      rintro r w6 ⟨v, rfl, hf, hb⟩
      obtain ⟨gb, cb6, rfl, hfa⟩ := hf.at
      rw [HLB.out]
      rw [HLB.out] at hfa
      have HFA := Lib.hid hfa
      clear hf hfa HBO
      obtain ⟨J0, hJ, hJ0, hJ1⟩ := mod_any pos (L : Int) (by omega) (by omega)
      obtain ⟨J, rfl⟩ : ∃ J : Nat, J0 = (J : Int) := ⟨J0.toNat, by omega⟩
      have hJn : J < L := by omega
      have hne : ((L : Int) == 0) = false := by rw [beq_eq_false_iff_ne]; omega
      have hL0 := hLi.1
      have hL1 := hLi.2
      obtain ⟨z, hz⟩ : ∃ z, y ||| 1 = z := ⟨_, rfl⟩
      obtain ⟨fJ, cJ, -⟩ := HFA.out J hJn
      obtain ⟨u, hu⟩ : ∃ u, B.getD J 0 = u := ⟨_, rfl⟩
      rw [hu] at cJ
      have HU := Lib.hid hu
      have HZZ := Lib.hid hz
      have ST := fun (x : UInt8) p w => Bv_store (P := Try.prog) x w p
      have SC := fun x => (Value.cells.eq_def (Bv x)).symm.trans (Bv_cells x)
      have BX := fun x y w => Bv_xor (P := Try.prog) 5 x y w
      have BO := fun w => (show (binOp .or 5 (Bv y) (.int .u8 1)).run Try.prog w = .ok (Bv z) w from by rw [← hz]; exact Bv_or (P := Try.prog) 5 y 1 w)
      have HB6 := Lib.hid hb
      clear hu hz hb hLi hJ0 hJ1
      go_upto_region 10 with fail
      generalize hw6 : World.setCell _ _ _ = w7
      have hRB := ((HFA.out J hJn).2.2 (u ^^^ z)).1
      have hBL := ((HFA.out J hJn).2.2 (u ^^^ z)).2 _ rfl HB6.out
      rw [hw6] at hRB hBL
      have Mq := Lib.hid (Mq.out.below hBL)
      have HNE := Lib.hid (show B.set J (u ^^^ z) ≠ B from set_ne (by rw [HLB.out]; exact hJn) (by rw [HU.out, ← HZZ.out]; exact xor_or1 u y))
      have HL2 := Lib.hid (show (B.set J (u ^^^ z)).length = L by rw [List.length_set]; exact HLB.out)
      obtain ⟨l2, hl2⟩ : ∃ l2, B.set J (u ^^^ z) = l2 := ⟨_, rfl⟩
      rw [hl2] at hRB HNE HL2
      have hL6 : L ≤ 600 := by omega
      have HPA := Lib.hid (parse14_any w7 (some ⟨gb, 0, none⟩) cb6 L l2 HL2.out hRB (by omega))
      clear hw6 hl2 hRB hBL fJ cJ hJ hJn hne ST SC BX BO HFA HB6 HU HZZ
      go_wp2_with fail
      with_reducible refine (HPA.out).mono ?_
      rintro r w10 ⟨hb, ⟨hpo, Av, cv, rfl, hrv⟩ | ⟨hpo, e0, he0, rfl⟩⟩
      · obtain ⟨V, hV⟩ : ∃ V : Pk, pkR l2 Av cv = V := ⟨_, rfl⟩
        have HTV := Lib.hid (show V.T.length = 32 from by rw [← hV]; exact pkR_T _ _ _)
        have HVc := Lib.hid (show chkP V = 0 from by rw [← hV, pkR_chk]; unfold pOk at hpo; exact hpo.2.2.2)
        have hk14 := (chkP_ok HVc.out).1
        have RV := Lib.hid (show RB w10 w10.heap.size V.A V.l from by rw [← hV, pkR_A, pkR_l]; exact hrv)
        have hhd : hdB V ++ V.T = l2 := by rw [← hV]; exact parse_inv (by rw [HL2.out]; omega) hpo _ _
        have HEV := Lib.hid (show eqP V Z = false from by
          cases hq : eqP V Z with
          | false => rfl
          | true =>
            exfalso
            apply HNE.out
            rw [← hhd, eqP_hd hq, HBB.out])
        have HVl := Lib.hid (show V.l.length ≤ 512 from (chkP_ok HVc.out).2.2.2.2.1)
        rw [hV]
        clear hrv hhd hpo HNE HPA hV
        have Mq := Lib.hid (Mq.out.below hb)
        clear hb
        go_upto_region 11 with (first | refine wpList_store_row rfl _ _ _ rfl w10.heap.size (pkc V) rfl rfl 33 _ (Bk.mk_ _ _ _) (info_pk HTV.out) (y41_k HTV.out) (pkc_one _) ?_)
        generalize hw2 : World.setRow _ _ _ = wn
        have hb14 : Below w10.heap.size w10 wn := by
          rw [← hw2]
          exact ((On.refl _ _).setRow (g := w10.heap.size) (.inl rfl) _).below (Nat.le_refl _) (by simp) |> fun h => ((Below.refl _ _).alloc (Nat.le_refl _) _).trans h
        have RV := Lib.hid (RV.out.keep hb14)
        clear hb14
        obtain ⟨g14, hg5⟩ : ∃ b, w10.heap.size = b := ⟨_, rfl⟩
        have hm := (Mst.setRow (bl := []) [] (Mq.out.new 33 Y41) (pkc V)).toVP hw2 rfl
        rw [hg5] at hm
        simp only [hg5]
        have Mq := Lib.hid hm
        clear hw2 hm hg5
        have HOF := Lib.hid (fun w' => of14_any w' V HTV.out)
        go_wp2_with (first | refine wpList_loadG (by first | rfl | kernel_rfl) _ _ rfl (g14) 0 rfl (pkc V) _ (pkc_whole (Mq.out.bk (g14, 33, pkc V) (by simp)).1) Try.underlying33 rfl (info_pk HTV.out) ?_)
        with_reducible refine (HOF.out _).mono ?_
        rintro r w11 ⟨rfl, hb⟩
        have RV := Lib.hid (RV.out.keep hb)
        have Mq := Lib.hid (Mq.out.below hb)
        clear hb
        go_upto_region 14 with (first | refine wpList_store_row rfl _ _ _ rfl w11.heap.size (pkc V) rfl rfl 29 _ (Bk.mk_ _ _ _) (info_rpk HTV.out) (y41_k HTV.out) (pkc_one _) ?_)
        generalize hw2 : World.setRow _ _ _ = wn
        have hb14 : Below w11.heap.size w11 wn := by
          rw [← hw2]
          exact ((On.refl _ _).setRow (g := w11.heap.size) (.inl rfl) _).below (Nat.le_refl _) (by simp) |> fun h => ((Below.refl _ _).alloc (Nat.le_refl _) _).trans h
        have RV := Lib.hid (RV.out.keep hb14)
        clear hb14
        obtain ⟨g16, hg5⟩ : ∃ b, w11.heap.size = b := ⟨_, rfl⟩
        have hm := (Mst.setRow (bl := []) [] (Mq.out.new 29 Y41) (pkc V)).toVP hw2 rfl
        rw [hg5] at hm
        simp only [hg5]
        have Mq := Lib.hid hm
        clear hw2 hm hg5
        have HHV := Lib.hid (show ∀ w' bl ow', Mst W w' bl ow' → (gk, 66, #[Value.slice Ak n ck]) ∈ bl → (⟨5, 1, .slice Ak n ck, n, by8 l'⟩ : Ro) ∈ ow' → RB w' w'.heap.size V.A V.l → _ from fun w' bl ow' h hb hm hv => holds_any V HTV.out w' hv gk l' (HKW.out w' bl ow' h hb hm) HKL.out)
        have HSM := Lib.hid (show ∀ w' bl ow', Mst W w' bl ow' → (⟨5, 1, .slice A9 N c9, N, by8 X.l⟩ : Ro) ∈ ow' → RB w' w'.heap.size V.A V.l → Calls Try.prog 17 #[.agg (pkc V), .agg (pkc Z)] w' fun e w2 => e = .returned (.bool false) ∧ Below w'.heap.size w' w2 from fun w' bl ow' h hz hv => by
          have q := psame_any V Z HTV.out HTZ.out w' hv (HRZ.out w' bl ow' h hz) (by have := HVl.out; omega)
          rw [HEV.out] at q
          exact q)
        have HOD := Lib.hid (show ∀ w' bl' ow', Mst W w' bl' ow' → (g14, 33, pkc V) ∈ bl' → (g16, 29, pkc V) ∈ bl' → (g8, 33, pkc Z) ∈ bl' → w'.rangeAt g14 0 (pkc V).toList ∧ w'.rangeAt g16 0 (pkc V).toList ∧ w'.rangeAt g8 0 (pkc Z).toList ∧ w'.rangeAt g16 9 (by8 V.T) ∧ w'.cell? ⟨g16, 0, none⟩ = some (.int .i64 V.k) from fun w' bl' ow' h h1 h2 h3 => ⟨pkc_whole (h.bk _ h1).1, pkc_whole (h.bk _ h2).1, pkc_whole (h.bk _ h3).1, pkc_range (h.bk _ h2).1, (pkc_cells (h.bk _ h2).1).1⟩)
        have K0 := Lib.hid (HOD.out _ _ _ Mq.out.drew (by simp) (by simp) (by simp))
        by_cases hgt : 2 < V.k
        · have hpv : ¬ (V.k = 1 ∨ V.k = 2) := by omega
          obtain ⟨Kv, hKv⟩ : ∃ K, macT l' (hdB V) = K := ⟨_, rfl⟩
          have HTKv := Lib.hid (show Kv.length = 32 by rw [← hKv]; rfl)
          have HRT := Lib.hid (show ∀ w' bl ow', Mst W w' bl ow' → RB w' w'.heap.size V.A V.l → _ from fun w' bl ow' h hv => rtag14_any KT HKT.out w' A c n l' HLN.out (R1.out.keep h.bel) HKL.out V HTV.out HVc.out hv)
          rw [hKv] at HRT
          have hhf : holdP l' V = decide (Kv = V.T) := by
            unfold holdP
            rw [decide_eq_false hpv, chk_tag2 hpv, decide_eq_true HVc.out, hKv]
            rfl
          obtain ⟨D, hD⟩ : ∃ D, decide (Kv = V.T) = D := ⟨_, rfl⟩
          rw [hhf, hD] at HHV
          have heq1 : ∀ w, (Op.equalIn 10000 27 (.agg (b8a Kv)) (.agg (by8 V.T).toArray)).run Try.prog w = .ok D w := fun w => by rw [← hD]; exact equalInP 9998 Kv V.T HTKv.out HTV.out w
          have hnn1 : ∀ w, (binOp .eql 4 (.bool D) (.bool D)).run Try.prog w = .ok (.bool true) w := fun w => by cases D <;> rfl
          clear hhf hD hKv hpv
          refine wp_region_held_drew (S := fun w' => w'.rangeAt g14 0 (pkc V).toList ∧ w'.rangeAt g16 0 (pkc V).toList ∧ w'.rangeAt g8 0 (pkc Z).toList ∧ w'.rangeAt g16 9 (by8 V.T) ∧ w'.cell? ⟨g16, 0, none⟩ = some (.int .i64 V.k)) (by kernel_rfl) ?_ (fun hHeld => ?_)
          · exact K0.out
          have RV := Lib.hid (RV.out.keep (Below.refl _ _).drew); generalize hw7 : World.drew _ = w7 at hHeld RV ⊢; have Mq := Lib.hid (Mq.out.drew.toVP hw7 rfl); clear hw7
          refine wpAnyH_ready (rs := [0]) (by kernel_rfl) (by simp) ?_
          refine (AllReadyH.cons rfl (fun K hK => ?_) AllReadyH.nil)
          go_simp
          (with_reducible refine (HKN.out _).mono ?_); rintro r wq ⟨rfl, hb⟩; have RV := Lib.hid (RV.out.keep hb); have Mq := Lib.hid (Mq.out.below hb); clear hb
          go_wp2_with fail
          refine hK.out _ _ (by exact HOD.out _ _ _ Mq.out (by simp) (by simp) (by simp)) (fun hHeld => ?_)
          clear hK K
          refine wpAnyH_take (i := 1) (v := ?_) rfl (by kernel_rfl) (by kernel_rfl) (by kernel_rfl) (fun _ _ _ h => h) (Or.inl ⟨by rfl, ?_⟩) (by assumption) ?_
          rotate_left
          · intro w hSw; (try dsimp only at hSw); go_split_ands; go_simp; with_reducible rfl
          change wpAnyH _ _ _ _ _ _ _ (Act.put _ (some 71) _) _
          simp only [Act.put, List.setIfInBounds_toArray, List.set_cons_zero, List.set_cons_succ, Array.toArray_toList]
          refine wpAnyH_take (i := 2) rfl (by kernel_rfl) (by kernel_rfl) (by kernel_rfl) (fun _ _ _ h => h) (yieldsIf_load_mid (by rfl) _ _ rfl _ _ rfl _ _ (fun w hw => hw.1) Try.underlying33 rfl (by rw [Array.length_toList]; exact info_pk HTV.out)) (by assumption) ?_
          change wpAnyH _ _ _ _ _ _ _ (Act.put _ (some 72) _) _
          simp only [Act.put, List.setIfInBounds_toArray, List.set_cons_zero, List.set_cons_succ, Array.toArray_toList]
          refine wpAnyH_take (i := 3) (v := ?_) rfl (by kernel_rfl) (by kernel_rfl) (by kernel_rfl) (fun _ _ _ h => h) (Or.inl ⟨by rfl, ?_⟩) (by assumption) ?_
          rotate_left
          · intro w hSw; (try dsimp only at hSw); go_split_ands; go_simp; with_reducible rfl
          change wpAnyH _ _ _ _ _ _ _ (Act.put _ (some 73) _) _
          simp only [Act.put, List.setIfInBounds_toArray, List.set_cons_zero, List.set_cons_succ, Array.toArray_toList]
          refine wpAnyH_take (i := 5) (v := ?_) rfl (by kernel_rfl) (by kernel_rfl) (by kernel_rfl) (fun _ _ _ h => h) (Or.inl ⟨by rfl, ?_⟩) (by assumption) ?_
          rotate_left
          · intro w hSw; (try dsimp only at hSw); go_split_ands; go_simp; with_reducible rfl
          change wpAnyH _ _ _ _ _ _ _ (Act.put _ (some 75) _) _
          simp only [Act.put, List.setIfInBounds_toArray, List.set_cons_zero, List.set_cons_succ, Array.toArray_toList]
          refine wpAnyH_take (i := 6) (v := ?_) rfl (by kernel_rfl) (by kernel_rfl) (by kernel_rfl) (fun _ _ _ h => h) (Or.inl ⟨by rfl, ?_⟩) (by assumption) ?_
          rotate_left
          · intro w hSw; (try dsimp only at hSw); go_split_ands; go_simp; with_reducible rfl
          change wpAnyH _ _ _ _ _ _ _ (Act.put _ (some 76) _) _
          simp only [Act.put, List.setIfInBounds_toArray, List.set_cons_zero, List.set_cons_succ, Array.toArray_toList]
          refine wpAnyH_take (i := 7) (v := ?_) rfl (by kernel_rfl) (by kernel_rfl) (by kernel_rfl) (fun _ _ _ h => h) (Or.inl ⟨by rfl, ?_⟩) (by assumption) ?_
          rotate_left
          · intro w hSw; (try dsimp only at hSw); go_split_ands; go_simp; with_reducible rfl
          change wpAnyH _ _ _ _ _ _ _ (Act.put _ (some 77) _) _
          simp only [Act.put, List.setIfInBounds_toArray, List.set_cons_zero, List.set_cons_succ, Array.toArray_toList]
          refine wpAnyH_ready (rs := [4]) (by kernel_rfl) (by simp) ?_
          refine (AllReadyH.cons rfl (fun K hK => ?_) AllReadyH.nil)
          go_simp
          (with_reducible refine (HHV.out _ _ _ Mq.out (by simp) (by simp) RV.out).mono ?_); rintro r wq ⟨rfl, hb⟩; have RV := Lib.hid (RV.out.keep hb); have Mq := Lib.hid (Mq.out.below hb); clear hb
          go_wp2_with fail
          refine hK.out _ _ (by exact HOD.out _ _ _ Mq.out (by simp) (by simp) (by simp)) (fun hHeld => ?_)
          clear hK K
          refine wpAnyH_take (i := 8) (v := ?_) rfl (by kernel_rfl) (by kernel_rfl) (by kernel_rfl) (fun _ _ _ h => h) (Or.inl ⟨by rfl, ?_⟩) (by assumption) ?_
          rotate_left
          · intro w hSw; (try dsimp only at hSw); go_split_ands; go_simp; with_reducible rfl
          change wpAnyH _ _ _ _ _ _ _ (Act.put _ (some 78) _) _
          simp only [Act.put, List.setIfInBounds_toArray, List.set_cons_zero, List.set_cons_succ, Array.toArray_toList]
          refine wpAnyH_take (i := 10) (v := ?_) rfl (by kernel_rfl) (by kernel_rfl) (by kernel_rfl) (fun _ _ _ h => h) (Or.inl ⟨by rfl, ?_⟩) (by assumption) ?_
          rotate_left
          · intro w hSw; (try dsimp only at hSw); go_split_ands; go_simp; with_reducible rfl
          change wpAnyH _ _ _ _ _ _ _ (Act.put _ (some 80) _) _
          simp only [Act.put, List.setIfInBounds_toArray, List.set_cons_zero, List.set_cons_succ, Array.toArray_toList]
          refine wpAnyH_take (i := 11) rfl (by kernel_rfl) (by kernel_rfl) (by kernel_rfl) (fun _ _ _ h => h) (yieldsIf_load_mid (by rfl) _ _ rfl _ _ rfl _ _ (fun w hw => hw.2.1) Try.underlying29 rfl (by rw [Array.length_toList]; exact info_rpk HTV.out)) (by assumption) ?_
          change wpAnyH _ _ _ _ _ _ _ (Act.put _ (some 81) _) _
          simp only [Act.put, List.setIfInBounds_toArray, List.set_cons_zero, List.set_cons_succ, Array.toArray_toList]
          refine wpAnyH_take (i := 13) (v := ?_) rfl (by kernel_rfl) (by kernel_rfl) (by kernel_rfl) (fun _ _ _ h => h) (Or.inl ⟨by rfl, ?_⟩) (by assumption) ?_
          rotate_left
          · intro w hSw; (try dsimp only at hSw); go_split_ands; go_simp; with_reducible rfl
          change wpAnyH _ _ _ _ _ _ _ (Act.put _ (some 83) _) _
          simp only [Act.put, List.setIfInBounds_toArray, List.set_cons_zero, List.set_cons_succ, Array.toArray_toList]
          refine wpAnyH_take (i := 14) rfl (by kernel_rfl) (by kernel_rfl) (by kernel_rfl) (fun _ _ _ h => h) (yieldsIf_load_mid (by rfl) _ _ rfl _ _ rfl _ _ (fun w hw => hw.2.2.2.1) Try.underlying27 rfl (info_tag HTV.out)) (by assumption) ?_
          change wpAnyH _ _ _ _ _ _ _ (Act.put _ (some 84) _) _
          simp only [Act.put, List.setIfInBounds_toArray, List.set_cons_zero, List.set_cons_succ, Array.toArray_toList]
          refine wpAnyH_ready (rs := [9]) (by kernel_rfl) (by simp) ?_
          refine (AllReadyH.cons rfl (fun K hK => ?_) AllReadyH.nil)
          go_simp
          (with_reducible refine (HMK.out _).mono ?_); rintro r wq ⟨rfl, hb⟩; have RV := Lib.hid (RV.out.keep hb); have Mq := Lib.hid (Mq.out.below hb); clear hb
          go_wp2_with fail
          refine hK.out _ _ (by exact HOD.out _ _ _ Mq.out (by simp) (by simp) (by simp)) (fun hHeld => ?_)
          clear hK K
          refine wpAnyH_ready (rs := [12]) (by kernel_rfl) (by simp) ?_
          refine (AllReadyH.cons rfl (fun K hK => ?_) AllReadyH.nil)
          go_simp
          (with_reducible refine (HRT.out _ _ _ Mq.out RV.out).mono ?_); rintro r wq ⟨rfl, hb⟩; have RV := Lib.hid (RV.out.keep hb); have Mq := Lib.hid (Mq.out.below hb); clear hb
          go_wp2_with fail
          refine hK.out _ _ (by exact HOD.out _ _ _ Mq.out (by simp) (by simp) (by simp)) (fun hHeld => ?_)
          clear hK K
          refine wpAnyH_take (i := 15) (v := ?_) rfl (by kernel_rfl) (by kernel_rfl) (by kernel_rfl) (fun _ _ _ h => h) (Or.inl ⟨by rfl, ?_⟩) (by assumption) ?_
          rotate_left
          · intro w hSw; (try dsimp only at hSw); go_split_ands; go_simp; with_reducible rfl
          change wpAnyH _ _ _ _ _ _ _ (Act.put _ (some 85) _) _
          simp only [Act.put, List.setIfInBounds_toArray, List.set_cons_zero, List.set_cons_succ, Array.toArray_toList]
          refine wpAnyH_take (i := 16) (v := ?_) rfl (by kernel_rfl) (by kernel_rfl) (by kernel_rfl) (fun _ _ _ h => h) (Or.inl ⟨by rfl, ?_⟩) (by assumption) ?_
          rotate_left
          · intro w hSw; (try dsimp only at hSw); go_split_ands; go_simp; with_reducible rfl
          change wpAnyH _ _ _ _ _ _ _ (Act.put _ (some 86) _) _
          simp only [Act.put, List.setIfInBounds_toArray, List.set_cons_zero, List.set_cons_succ, Array.toArray_toList]
          refine wpAnyH_take (i := 17) (v := ?_) rfl (by kernel_rfl) (by kernel_rfl) (by kernel_rfl) (fun _ _ _ h => h) (Or.inl ⟨by rfl, ?_⟩) (by assumption) ?_
          rotate_left
          · intro w hSw; (try dsimp only at hSw); go_split_ands; go_simp; with_reducible rfl
          change wpAnyH _ _ _ _ _ _ _ (Act.put _ (some 87) _) _
          simp only [Act.put, List.setIfInBounds_toArray, List.set_cons_zero, List.set_cons_succ, Array.toArray_toList]
          refine wpAnyH_take (i := 18) (v := ?_) rfl (by kernel_rfl) (by kernel_rfl) (by kernel_rfl) (fun _ _ _ h => h) (Or.inl ⟨by rfl, ?_⟩) (by assumption) ?_
          rotate_left
          · intro w hSw; (try dsimp only at hSw); go_split_ands; go_simp; with_reducible rfl
          change wpAnyH _ _ _ _ _ _ _ (Act.put _ (some 88) _) _
          simp only [Act.put, List.setIfInBounds_toArray, List.set_cons_zero, List.set_cons_succ, Array.toArray_toList]
          refine wpAnyH_take (i := 19) (v := ?_) rfl (by kernel_rfl) (by kernel_rfl) (by kernel_rfl) (fun _ _ _ h => h) (Or.inl ⟨by rfl, ?_⟩) (by assumption) ?_
          rotate_left
          · intro w hSw; (try dsimp only at hSw); go_split_ands; go_simp; with_reducible rfl
          change wpAnyH _ _ _ _ _ _ _ (Act.put _ (some 89) _) _
          simp only [Act.put, List.setIfInBounds_toArray, List.set_cons_zero, List.set_cons_succ, Array.toArray_toList]
          refine wpAnyH_take (i := 20) rfl (by kernel_rfl) (by kernel_rfl) (by kernel_rfl) (fun _ _ _ h => h) (yieldsIf_load_mid (by rfl) _ _ rfl _ _ rfl _ _ (fun w hw => hw.1) Try.underlying33 rfl (by rw [Array.length_toList]; exact info_pk HTV.out)) (by assumption) ?_
          change wpAnyH _ _ _ _ _ _ _ (Act.put _ (some 90) _) _
          simp only [Act.put, List.setIfInBounds_toArray, List.set_cons_zero, List.set_cons_succ, Array.toArray_toList]
          refine wpAnyH_take (i := 21) rfl (by kernel_rfl) (by kernel_rfl) (by kernel_rfl) (fun _ _ _ h => h) (yieldsIf_load_mid (by rfl) _ _ rfl _ _ rfl _ _ (fun w hw => hw.2.2.1) Try.underlying33 rfl (by rw [Array.length_toList]; exact info_pk HTZ.out)) (by assumption) ?_
          change wpAnyH _ _ _ _ _ _ _ (Act.put _ (some 91) _) _
          simp only [Act.put, List.setIfInBounds_toArray, List.set_cons_zero, List.set_cons_succ, Array.toArray_toList]
          refine wpAnyH_ready (rs := [22]) (by kernel_rfl) (by simp) ?_
          refine (AllReadyH.cons rfl (fun K hK => ?_) AllReadyH.nil)
          go_simp
          (with_reducible refine (HSM.out _ _ _ Mq.out (by simp) RV.out).mono ?_); rintro r wq ⟨rfl, hb⟩; have RV := Lib.hid (RV.out.keep hb); have Mq := Lib.hid (Mq.out.below hb); clear hb
          go_wp2_with fail
          refine hK.out _ _ (by exact HOD.out _ _ _ Mq.out (by simp) (by simp) (by simp)) (fun hHeld => ?_)
          clear hK K
          refine wpAnyH_take (i := 23) (v := ?_) rfl (by kernel_rfl) (by kernel_rfl) (by kernel_rfl) (fun _ _ _ h => h) (Or.inl ⟨by rfl, ?_⟩) (by assumption) ?_
          rotate_left
          · intro w hSw; (try dsimp only at hSw); go_split_ands; go_simp; with_reducible rfl
          change wpAnyH _ _ _ _ _ _ _ (Act.put _ (some 93) _) _
          simp only [Act.put, List.setIfInBounds_toArray, List.set_cons_zero, List.set_cons_succ, Array.toArray_toList]
          refine wpAnyH_take (i := 24) (v := ?_) rfl (by kernel_rfl) (by kernel_rfl) (by kernel_rfl) (fun _ _ _ h => h) (Or.inl ⟨by rfl, ?_⟩) (by assumption) ?_
          rotate_left
          · intro w hSw; (try dsimp only at hSw); go_split_ands; go_simp; with_reducible rfl
          change wpAnyH _ _ _ _ _ _ _ (Act.put _ (some 94) _) _
          simp only [Act.put, List.setIfInBounds_toArray, List.set_cons_zero, List.set_cons_succ, Array.toArray_toList]
          refine wpAnyH_take (i := 25) (v := ?_) rfl (by kernel_rfl) (by kernel_rfl) (by kernel_rfl) (fun _ _ _ h => h) (Or.inl ⟨by rfl, ?_⟩) (by assumption) ?_
          rotate_left
          · intro w hSw; (try dsimp only at hSw); go_split_ands; go_simp; with_reducible rfl
          change wpAnyH _ _ _ _ _ _ _ (Act.put _ (some 8) _) _
          simp only [Act.put, List.setIfInBounds_toArray, List.set_cons_zero, List.set_cons_succ, Array.toArray_toList]
          refine wpAnyH_done (by kernel_rfl) ?_ _
          go_wp2_with fail
          go_ret
          exact ⟨rfl, Mq.out.bel⟩
        · have hk2 : V.k = 1 ∨ V.k = 2 := by omega
          have hhf : holdP l' V = false := by
            unfold holdP
            rw [decide_eq_true hk2]
            rfl
          rw [hhf] at HHV
          have hgt1 : decide (2 < V.k) = false := decide_eq_false hgt
          have hgt2 : V.k ≤ 2 := by omega
          clear hhf hk2
          refine wp_region_held_drew (S := fun w' => w'.rangeAt g14 0 (pkc V).toList ∧ w'.rangeAt g16 0 (pkc V).toList ∧ w'.rangeAt g8 0 (pkc Z).toList ∧ w'.rangeAt g16 9 (by8 V.T) ∧ w'.cell? ⟨g16, 0, none⟩ = some (.int .i64 V.k)) (by kernel_rfl) ?_ (fun hHeld => ?_)
          · exact K0.out
          have RV := Lib.hid (RV.out.keep (Below.refl _ _).drew); generalize hw7 : World.drew _ = w7 at hHeld RV ⊢; have Mq := Lib.hid (Mq.out.drew.toVP hw7 rfl); clear hw7
          refine wpAnyH_ready (rs := [0]) (by kernel_rfl) (by simp) ?_
          refine (AllReadyH.cons rfl (fun K hK => ?_) AllReadyH.nil)
          go_simp
          (with_reducible refine (HKN.out _).mono ?_); rintro r wq ⟨rfl, hb⟩; have RV := Lib.hid (RV.out.keep hb); have Mq := Lib.hid (Mq.out.below hb); clear hb
          go_wp2_with fail
          refine hK.out _ _ (by exact HOD.out _ _ _ Mq.out (by simp) (by simp) (by simp)) (fun hHeld => ?_)
          clear hK K
          refine wpAnyH_take (i := 1) (v := ?_) rfl (by kernel_rfl) (by kernel_rfl) (by kernel_rfl) (fun _ _ _ h => h) (Or.inl ⟨by rfl, ?_⟩) (by assumption) ?_
          rotate_left
          · intro w hSw; (try dsimp only at hSw); go_split_ands; go_simp; with_reducible rfl
          change wpAnyH _ _ _ _ _ _ _ (Act.put _ (some 71) _) _
          simp only [Act.put, List.setIfInBounds_toArray, List.set_cons_zero, List.set_cons_succ, Array.toArray_toList]
          refine wpAnyH_take (i := 2) rfl (by kernel_rfl) (by kernel_rfl) (by kernel_rfl) (fun _ _ _ h => h) (yieldsIf_load_mid (by rfl) _ _ rfl _ _ rfl _ _ (fun w hw => hw.1) Try.underlying33 rfl (by rw [Array.length_toList]; exact info_pk HTV.out)) (by assumption) ?_
          change wpAnyH _ _ _ _ _ _ _ (Act.put _ (some 72) _) _
          simp only [Act.put, List.setIfInBounds_toArray, List.set_cons_zero, List.set_cons_succ, Array.toArray_toList]
          refine wpAnyH_take (i := 3) (v := ?_) rfl (by kernel_rfl) (by kernel_rfl) (by kernel_rfl) (fun _ _ _ h => h) (Or.inl ⟨by rfl, ?_⟩) (by assumption) ?_
          rotate_left
          · intro w hSw; (try dsimp only at hSw); go_split_ands; go_simp; with_reducible rfl
          change wpAnyH _ _ _ _ _ _ _ (Act.put _ (some 73) _) _
          simp only [Act.put, List.setIfInBounds_toArray, List.set_cons_zero, List.set_cons_succ, Array.toArray_toList]
          refine wpAnyH_take (i := 5) (v := ?_) rfl (by kernel_rfl) (by kernel_rfl) (by kernel_rfl) (fun _ _ _ h => h) (Or.inl ⟨by rfl, ?_⟩) (by assumption) ?_
          rotate_left
          · intro w hSw; (try dsimp only at hSw); go_split_ands; go_simp; with_reducible rfl
          change wpAnyH _ _ _ _ _ _ _ (Act.put _ (some 75) _) _
          simp only [Act.put, List.setIfInBounds_toArray, List.set_cons_zero, List.set_cons_succ, Array.toArray_toList]
          refine wpAnyH_take (i := 6) (v := ?_) rfl (by kernel_rfl) (by kernel_rfl) (by kernel_rfl) (fun _ _ _ h => h) (Or.inl ⟨by rfl, ?_⟩) (by assumption) ?_
          rotate_left
          · intro w hSw; (try dsimp only at hSw); go_split_ands; go_simp; with_reducible rfl
          change wpAnyH _ _ _ _ _ _ _ (Act.put _ (some 76) _) _
          simp only [Act.put, List.setIfInBounds_toArray, List.set_cons_zero, List.set_cons_succ, Array.toArray_toList]
          refine wpAnyH_take (i := 7) (v := ?_) rfl (by kernel_rfl) (by kernel_rfl) (by kernel_rfl) (fun _ _ _ h => h) (Or.inl ⟨by rfl, ?_⟩) (by assumption) ?_
          rotate_left
          · intro w hSw; (try dsimp only at hSw); go_split_ands; go_simp; with_reducible rfl
          change wpAnyH _ _ _ _ _ _ _ (Act.put _ (some 77) _) _
          simp only [Act.put, List.setIfInBounds_toArray, List.set_cons_zero, List.set_cons_succ, Array.toArray_toList]
          refine wpAnyH_ready (rs := [4]) (by kernel_rfl) (by simp) ?_
          refine (AllReadyH.cons rfl (fun K hK => ?_) AllReadyH.nil)
          go_simp
          (with_reducible refine (HHV.out _ _ _ Mq.out (by simp) (by simp) RV.out).mono ?_); rintro r wq ⟨rfl, hb⟩; have RV := Lib.hid (RV.out.keep hb); have Mq := Lib.hid (Mq.out.below hb); clear hb
          go_wp2_with fail
          refine hK.out _ _ (by exact HOD.out _ _ _ Mq.out (by simp) (by simp) (by simp)) (fun hHeld => ?_)
          clear hK K
          refine wpAnyH_take (i := 8) (v := ?_) rfl (by kernel_rfl) (by kernel_rfl) (by kernel_rfl) (fun _ _ _ h => h) (Or.inl ⟨by rfl, ?_⟩) (by assumption) ?_
          rotate_left
          · intro w hSw; (try dsimp only at hSw); go_split_ands; go_simp; with_reducible rfl
          change wpAnyH _ _ _ _ _ _ _ (Act.put _ (some 78) _) _
          simp only [Act.put, List.setIfInBounds_toArray, List.set_cons_zero, List.set_cons_succ, Array.toArray_toList]
          refine wpAnyH_take (i := 9) (v := undef) rfl (by kernel_rfl) (by kernel_rfl) (by kernel_rfl) (fun _ _ _ h => h) (Or.inr ⟨by rfl, rfl⟩) (by assumption) ?_
          change wpAnyH _ _ _ _ _ _ _ (Act.put _ (some 79) _) _
          simp only [Act.put, List.setIfInBounds_toArray, List.set_cons_zero, List.set_cons_succ, Array.toArray_toList]
          refine wpAnyH_take (i := 10) (v := undef) rfl (by kernel_rfl) (by kernel_rfl) (by kernel_rfl) (fun _ _ _ h => h) (Or.inr ⟨by rfl, rfl⟩) (by assumption) ?_
          change wpAnyH _ _ _ _ _ _ _ (Act.put _ (some 80) _) _
          simp only [Act.put, List.setIfInBounds_toArray, List.set_cons_zero, List.set_cons_succ, Array.toArray_toList]
          refine wpAnyH_take (i := 11) (v := undef) rfl (by kernel_rfl) (by kernel_rfl) (by kernel_rfl) (fun _ _ _ h => h) (Or.inr ⟨by rfl, rfl⟩) (by assumption) ?_
          change wpAnyH _ _ _ _ _ _ _ (Act.put _ (some 81) _) _
          simp only [Act.put, List.setIfInBounds_toArray, List.set_cons_zero, List.set_cons_succ, Array.toArray_toList]
          refine wpAnyH_take (i := 12) (v := undef) rfl (by kernel_rfl) (by kernel_rfl) (by kernel_rfl) (fun _ _ _ h => h) (Or.inr ⟨by rfl, rfl⟩) (by assumption) ?_
          change wpAnyH _ _ _ _ _ _ _ (Act.put _ (some 82) _) _
          simp only [Act.put, List.setIfInBounds_toArray, List.set_cons_zero, List.set_cons_succ, Array.toArray_toList]
          refine wpAnyH_take (i := 13) (v := undef) rfl (by kernel_rfl) (by kernel_rfl) (by kernel_rfl) (fun _ _ _ h => h) (Or.inr ⟨by rfl, rfl⟩) (by assumption) ?_
          change wpAnyH _ _ _ _ _ _ _ (Act.put _ (some 83) _) _
          simp only [Act.put, List.setIfInBounds_toArray, List.set_cons_zero, List.set_cons_succ, Array.toArray_toList]
          refine wpAnyH_take (i := 14) (v := undef) rfl (by kernel_rfl) (by kernel_rfl) (by kernel_rfl) (fun _ _ _ h => h) (Or.inr ⟨by rfl, rfl⟩) (by assumption) ?_
          change wpAnyH _ _ _ _ _ _ _ (Act.put _ (some 84) _) _
          simp only [Act.put, List.setIfInBounds_toArray, List.set_cons_zero, List.set_cons_succ, Array.toArray_toList]
          refine wpAnyH_take (i := 15) (v := undef) rfl (by kernel_rfl) (by kernel_rfl) (by kernel_rfl) (fun _ _ _ h => h) (Or.inr ⟨by rfl, rfl⟩) (by assumption) ?_
          change wpAnyH _ _ _ _ _ _ _ (Act.put _ (some 85) _) _
          simp only [Act.put, List.setIfInBounds_toArray, List.set_cons_zero, List.set_cons_succ, Array.toArray_toList]
          refine wpAnyH_take (i := 16) (v := ?_) rfl (by kernel_rfl) (by kernel_rfl) (by kernel_rfl) (fun _ _ _ h => h) (Or.inl ⟨by rfl, ?_⟩) (by assumption) ?_
          rotate_left
          · intro w hSw; (try dsimp only at hSw); go_split_ands; go_simp; with_reducible rfl
          change wpAnyH _ _ _ _ _ _ _ (Act.put _ (some 86) _) _
          simp only [Act.put, List.setIfInBounds_toArray, List.set_cons_zero, List.set_cons_succ, Array.toArray_toList]
          refine wpAnyH_take (i := 17) (v := ?_) rfl (by kernel_rfl) (by kernel_rfl) (by kernel_rfl) (fun _ _ _ h => h) (Or.inl ⟨by rfl, ?_⟩) (by assumption) ?_
          rotate_left
          · intro w hSw; (try dsimp only at hSw); go_split_ands; go_simp; with_reducible rfl
          change wpAnyH _ _ _ _ _ _ _ (Act.put _ (some 87) _) _
          simp only [Act.put, List.setIfInBounds_toArray, List.set_cons_zero, List.set_cons_succ, Array.toArray_toList]
          refine wpAnyH_take (i := 18) (v := ?_) rfl (by kernel_rfl) (by kernel_rfl) (by kernel_rfl) (fun _ _ _ h => h) (Or.inl ⟨by rfl, ?_⟩) (by assumption) ?_
          rotate_left
          · intro w hSw; (try dsimp only at hSw); go_split_ands; go_simp; with_reducible rfl
          change wpAnyH _ _ _ _ _ _ _ (Act.put _ (some 88) _) _
          simp only [Act.put, List.setIfInBounds_toArray, List.set_cons_zero, List.set_cons_succ, Array.toArray_toList]
          refine wpAnyH_take (i := 19) (v := ?_) rfl (by kernel_rfl) (by kernel_rfl) (by kernel_rfl) (fun _ _ _ h => h) (Or.inl ⟨by rfl, ?_⟩) (by assumption) ?_
          rotate_left
          · intro w hSw; (try dsimp only at hSw); go_split_ands; go_simp; with_reducible rfl
          change wpAnyH _ _ _ _ _ _ _ (Act.put _ (some 89) _) _
          simp only [Act.put, List.setIfInBounds_toArray, List.set_cons_zero, List.set_cons_succ, Array.toArray_toList]
          refine wpAnyH_take (i := 20) rfl (by kernel_rfl) (by kernel_rfl) (by kernel_rfl) (fun _ _ _ h => h) (yieldsIf_load_mid (by rfl) _ _ rfl _ _ rfl _ _ (fun w hw => hw.1) Try.underlying33 rfl (by rw [Array.length_toList]; exact info_pk HTV.out)) (by assumption) ?_
          change wpAnyH _ _ _ _ _ _ _ (Act.put _ (some 90) _) _
          simp only [Act.put, List.setIfInBounds_toArray, List.set_cons_zero, List.set_cons_succ, Array.toArray_toList]
          refine wpAnyH_take (i := 21) rfl (by kernel_rfl) (by kernel_rfl) (by kernel_rfl) (fun _ _ _ h => h) (yieldsIf_load_mid (by rfl) _ _ rfl _ _ rfl _ _ (fun w hw => hw.2.2.1) Try.underlying33 rfl (by rw [Array.length_toList]; exact info_pk HTZ.out)) (by assumption) ?_
          change wpAnyH _ _ _ _ _ _ _ (Act.put _ (some 91) _) _
          simp only [Act.put, List.setIfInBounds_toArray, List.set_cons_zero, List.set_cons_succ, Array.toArray_toList]
          refine wpAnyH_ready (rs := [22]) (by kernel_rfl) (by simp) ?_
          refine (AllReadyH.cons rfl (fun K hK => ?_) AllReadyH.nil)
          go_simp
          (with_reducible refine (HSM.out _ _ _ Mq.out (by simp) RV.out).mono ?_); rintro r wq ⟨rfl, hb⟩; have RV := Lib.hid (RV.out.keep hb); have Mq := Lib.hid (Mq.out.below hb); clear hb
          go_wp2_with fail
          refine hK.out _ _ (by exact HOD.out _ _ _ Mq.out (by simp) (by simp) (by simp)) (fun hHeld => ?_)
          clear hK K
          refine wpAnyH_take (i := 23) (v := ?_) rfl (by kernel_rfl) (by kernel_rfl) (by kernel_rfl) (fun _ _ _ h => h) (Or.inl ⟨by rfl, ?_⟩) (by assumption) ?_
          rotate_left
          · intro w hSw; (try dsimp only at hSw); go_split_ands; go_simp; with_reducible rfl
          change wpAnyH _ _ _ _ _ _ _ (Act.put _ (some 93) _) _
          simp only [Act.put, List.setIfInBounds_toArray, List.set_cons_zero, List.set_cons_succ, Array.toArray_toList]
          refine wpAnyH_take (i := 24) (v := ?_) rfl (by kernel_rfl) (by kernel_rfl) (by kernel_rfl) (fun _ _ _ h => h) (Or.inl ⟨by rfl, ?_⟩) (by assumption) ?_
          rotate_left
          · intro w hSw; (try dsimp only at hSw); go_split_ands; go_simp; with_reducible rfl
          change wpAnyH _ _ _ _ _ _ _ (Act.put _ (some 94) _) _
          simp only [Act.put, List.setIfInBounds_toArray, List.set_cons_zero, List.set_cons_succ, Array.toArray_toList]
          refine wpAnyH_take (i := 25) (v := ?_) rfl (by kernel_rfl) (by kernel_rfl) (by kernel_rfl) (fun _ _ _ h => h) (Or.inl ⟨by rfl, ?_⟩) (by assumption) ?_
          rotate_left
          · intro w hSw; (try dsimp only at hSw); go_split_ands; go_simp; with_reducible rfl
          change wpAnyH _ _ _ _ _ _ _ (Act.put _ (some 8) _) _
          simp only [Act.put, List.setIfInBounds_toArray, List.set_cons_zero, List.set_cons_succ, Array.toArray_toList]
          refine wpAnyH_done (by kernel_rfl) ?_ _
          go_wp2_with fail
          go_ret
          exact ⟨rfl, Mq.out.bel⟩
      · have hc3 : (e0 != 0) = true := by simpa using he0
        clear he0 hpo HPA
        have Mq := Lib.hid (Mq.out.below hb)
        clear hb
        go_upto_region 11 with (first | refine wpList_store_row rfl _ _ _ rfl w10.heap.size (pkc Pk0) rfl rfl 33 _ (Bk.mk_ _ _ _) (info_pk HZ0.out) (y41_k HZ0.out) (pkc_one _) ?_)
        generalize hw2 : World.setRow _ _ _ = wn
        obtain ⟨g14, hg5⟩ : ∃ b, w10.heap.size = b := ⟨_, rfl⟩
        have hm := (Mst.setRow (bl := []) [] (Mq.out.new 33 Y41) (pkc Pk0)).toVP hw2 rfl
        rw [hg5] at hm
        simp only [hg5]
        have Mq := Lib.hid hm
        clear hw2 hm hg5
        go_wp2_with fail
        with_reducible refine (HKN.out _).mono ?_
        rintro r w18 ⟨rfl, hb⟩
        have Mq := Lib.hid (Mq.out.below hb)
        clear hb
        go_wp2_with fail
        go_ret
        exact ⟨rfl, Mq.out.bel⟩
    · have HTA := Lib.hid (show ∀ w', _ from fun w' => tagged_bad X HTX.out hpl hC0 gk w')
      obtain ⟨C, hC⟩ : ∃ C, chkP { X with T := Z32 } = C := ⟨_, rfl⟩
      rw [hC] at HTA hC0
      have hc2 : (C != 0) = true := by simpa using hC0
      clear hC hC0 hpl
      go_wp2_with fail
      with_reducible refine (HTA.out _).mono ?_
      rintro r w5 ⟨rfl, hb⟩
      have Mq := Lib.hid (Mq.out.below hb)
      clear hb
      go_upto_region 4 with (first | refine wpList_store_row rfl _ _ _ rfl w5.heap.size (pkc Pk0) rfl rfl 33 _ (Bk.mk_ _ _ _) (info_pk HZ0.out) (y41_k HZ0.out) (pkc_one _) ?_)
      generalize hw2 : World.setRow _ _ _ = wn
      obtain ⟨g8, hg5⟩ : ∃ b, w5.heap.size = b := ⟨_, rfl⟩
      have hm := (Mst.setRow (bl := []) [] (Mq.out.new 33 Y41) (pkc Pk0)).toVP hw2 rfl
      rw [hg5] at hm
      simp only [hg5]
      have Mq := Lib.hid hm
      clear hw2 hm hg5
      go_wp2_with fail
      with_reducible refine (HKN.out _).mono ?_
      rintro r w18 ⟨rfl, hb⟩
      have Mq := Lib.hid (Mq.out.below hb)
      clear hb
      go_wp2_with fail
      go_ret
      exact ⟨rfl, Mq.out.bel⟩
theorem contract_packetTurns (W : World) (v0 v1 v2 v3 : Value) (a0 : ∃ p : Pk, v0 = .agg (pkc p) ∧ p.T.length = 32 ∧ RB W W.heap.size p.A p.l ∧ p.l.length ≤ p.cp ∧ p.cp ≤ 9223372036854775807) (a1 : ∃ r : Rw, v1 = r.v ∧ r.ok .u8 W) (a2 : ∃ z, v2 = .int .i64 z ∧ in64 z) (a3 : ∃ b : UInt8, v3 = .int .u8 (b.toNat : Int)) :
    Calls Try.prog 4 #[v0, v1, v2, v3] W fun e W' => e = .returned (.bool true) ∧ Below W.heap.size W W' := by
  obtain ⟨p, rfl, hT, hr, hc, hcm⟩ := a0
  obtain ⟨q, rfl, hq⟩ := a1
  obtain ⟨pos, rfl, -⟩ := a2
  obtain ⟨y, rfl⟩ := a3
  obtain ⟨l1, e1, g1, k1, k2⟩ := rw_pt hq
  rw [e1]
  exact packetTurns_main W p hT hr hc hcm q.A q.c l1 g1 k1 k2 pos y
end Go.Proofs.Ytnbemfceoianiaa
