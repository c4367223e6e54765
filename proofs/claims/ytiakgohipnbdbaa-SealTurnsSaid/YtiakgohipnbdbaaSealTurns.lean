/-
  vigillaw03.SealTurns returns true, whatever it is called with. Conditions: none but that the slices can be read.
-/
import Derived.Test.YtiakgohipnbdbaaSe7
import Derived.Test.YtiakgohipnbdbaaMod
namespace Go.Proofs.Ytiakgohipnbdbaa
set_option linter.unusedVariables false
set_option linter.unusedSimpArgs false
open Go.RowKit

section
open Go.ChangeShapes Go.WideShapes Go.ChangeAt Go.RowKit Go.Deep
theorem open_u8 {H : Type} {enc : TypeId × Value → H} {P : Program} {W : World} {r : Reach} {b0 : Nat} {t : TypeId} {v : Value} {d : DataW H} {ps : List MemPlace} (ht : P.underlying t = some (.int .u8)) (hval : Value.okWide P W r b0 t v) (h : DataW.Trod enc P W 0 (fun _ => true) true t v d ps) : ∃ b : UInt8, v = .int .u8 (b.toNat : Int) := by
  obtain ⟨a, rfl, _, _, w⟩ := open_int ht hval h
  have : 0 ≤ a ∧ a ≤ 255 := by simpa [Lit.wf, IntKind.min, IntKind.max, IntKind.signed, IntKind.bits] using w
  exact ⟨UInt8.ofNat a.toNat, by simp; omega⟩
end
theorem opE_two {kb nc bd l : List UInt8} (h : nc.length ≤ 32) (h2 : 32 ≤ l.length) : (∃ x, opE kb nc bd l = (x, 0) ∧ x.length ≤ l.length) ∨ opE kb nc bd l = ([], 5) := by
  cases h3 : opOk kb nc bd l with
  | true => exact .inl ⟨_, opE_ok h h2 h3, by rw [opL_len]; omega⟩
  | false => exact .inr (opE_tag h h2 h3)
theorem Mst.rbRow {W w : World} {bl : Bl} {ow : List Ro} {e n c : Nat} {A : Option Addr} {l : List UInt8} (h : Mst W w bl ow) (hm : (⟨e, 1, .slice A n c, n, by8 l⟩ : Ro) ∈ ow) (hl : l.length = n) : RB w w.heap.size A l := by
  subst hl
  exact h.src (h.rowSrc hm)

set_option maxRecDepth 100000 in
set_option maxHeartbeats 6400000 in
theorem sealTurns_main (W : World) (A1 A2 A3 A4 : Option Addr) (c1 c2 c3 c4 : Nat) (l1 l2 l3 l4 : List UInt8) (h1 : RB W W.heap.size A1 l1) (d1 : l1.length ≤ c1 ∧ c1 ≤ 9223372036854775807) (h2 : RB W W.heap.size A2 l2) (d2 : l2.length ≤ c2 ∧ c2 ≤ 9223372036854775807)
    (h3 : RB W W.heap.size A3 l3) (d3 : l3.length ≤ c3 ∧ c3 ≤ 9223372036854775807) (h4 : RB W W.heap.size A4 l4) (d4 : l4.length ≤ c4 ∧ c4 ≤ 9223372036854775807) (pos : Int) (y : UInt8) (which : Int) :
    Calls Try.prog 9 #[.slice A1 l1.length c1, .slice A2 l2.length c2, .slice A3 l3.length c3, .slice A4 l4.length c4, .int .i64 pos, Bv y, .int .i64 which] W fun e W' => e = .returned (.bool true) ∧ Below W.heap.size W W' := by
  obtain ⟨kb, k1, r1, k3, HC1⟩ := cut_ex 60 h1 d1 (by decide)
  obtain ⟨nc, n1, r2, n3, HC2⟩ := cut_ex 30 h2 d2 (by decide)
  obtain ⟨bd, b1, r3, b3, HC3⟩ := cut_ex 60 h3 d3 (by decide)
  obtain ⟨b, s1, r4, s3, HC4⟩ := cut_ex 60 h4 d4 (by decide)
  obtain ⟨KT, hKT⟩ := rsum_ex
  have HMK := Lib.hid hKT.make
  have HNW := Lib.hid (fun w bl ow hm h => new_M W w bl ow hm A1 c1 kb h (by omega))
  have HSL := Lib.hid (fun w gk An cn Ad cd h1 h2 h3 h4 => seal_any w gk kb h1 (by omega) An cn nc h2 (by omega) Ad cd bd h3 (by omega) A4 c4 b h4 (by omega))
  have HOP := Lib.hid (fun w gk An cn nc' Ad cd bd' As cs l h1 h2 h3 h4 (q1 : bd'.length ≤ 100) (q2 : l.length ≤ 1000) (q3 : l.length ≤ cs) q4 => open_all w gk kb h1 (by omega) An cn nc' h2 Ad cd bd' h3 (by omega) As cs l h4 (by omega) q3 q4)
  have HRO := Lib.hid (fun w An cn nc' Ad cd bd' As cs l h1 h2 h3 h4 (q1 : bd'.length ≤ 100) (q2 : l.length ≤ 1000) (q3 : l.length ≤ cs) q4 => refopen_all KT hKT w A1 c1 kb h1 (by omega) An cn nc' h2 Ad cd bd' h3 (by omega) As cs l h4 (by omega) q3 q4)
  have hsel := sealB_len kb nc bd b
  obtain ⟨SE, hSE⟩ : ∃ l, sealB kb nc bd b = l := ⟨_, rfl⟩
  rw [hSE] at hsel
  simp only [hSE] at HSL
  obtain ⟨N1, e1⟩ : ∃ n, l1.length = n := ⟨_, rfl⟩
  obtain ⟨N2, e2⟩ : ∃ n, l2.length = n := ⟨_, rfl⟩
  obtain ⟨N3, e3⟩ : ∃ n, l3.length = n := ⟨_, rfl⟩
  obtain ⟨N4, e4⟩ : ∃ n, l4.length = n := ⟨_, rfl⟩
  obtain ⟨M1, f1⟩ : ∃ n, kb.length = n := ⟨_, rfl⟩
  obtain ⟨M2, f2⟩ : ∃ n, nc.length = n := ⟨_, rfl⟩
  obtain ⟨M3, f3⟩ : ∃ n, bd.length = n := ⟨_, rfl⟩
  obtain ⟨n, f4⟩ : ∃ n, b.length = n := ⟨_, rfl⟩
  simp only [e1, e2, e3, e4, f1, f2, f3, f4] at HC1 HC2 HC3 HC4 HNW HSL HRO hsel k1 n1 b1 s1 ⊢
  have HC1 := Lib.hid HC1
  have HC2 := Lib.hid HC2
  have HC3 := Lib.hid HC3
  have HC4 := Lib.hid HC4
  have F1 := Lib.hid f1
  have F2 := Lib.hid f2
  have F3 := Lib.hid f3
  have HSEL := Lib.hid hsel
  have R1 := Lib.hid r1
  have R4 := Lib.hid r4
  have S2 := Lib.hid (show Src W [] [] 1 A2 M2 (by8 nc) from by rw [← f2]; exact Src.old r2)
  have S3 := Lib.hid (show Src W [] [] 1 A3 M3 (by8 bd) from by rw [← f3]; exact Src.old r3)
  have ST := fun (x : UInt8) p w => Bv_store (P := Try.prog) x w p
  have SC := fun x => (Value.cells.eq_def (Bv x)).symm.trans (Bv_cells x)
  have BX := fun x y w => Bv_xor (P := Try.prog) 5 x y w
  have BO := fun x w => (show (binOp .or 5 (Bv x) (.int .u8 1)).run Try.prog w = .ok (Bv (x ||| 1)) w from Bv_or (P := Try.prog) 5 x 1 w)
  clear h1 h2 h3 h4 d1 d2 d3 d4 k3 n3 b3 s3 r1 r2 r3 r4 hKT e1 e2 e3 e4 f1 f2 f3 f4 hsel hSE
  go_enter Try.func9, Try.ntmps9
  have M0 := Lib.hid ((Mst.start W).emptyE (e := 5) rfl)
  go_wp2_with fail
  refine (HC1.out _).mono ?_
  rintro e w1 ⟨rfl, rfl⟩
  go_wp2_with fail
  refine (HC2.out _).mono ?_
  rintro e w1 ⟨rfl, rfl⟩
  go_wp2_with (at_builtin; refine wpList_appE rfl _ _ 24 rfl [] M0.out el_u8c rfl _ A2 M2 c2 (by8 nc) rfl (M0.out.src (S2.out.sub (fun _ h => h) (fun _ h => nomatch h))) (by8_one _) (by unfold maxLen; omega) (by omega) ?_; intro An cn w1 Nn Xn hn5 hx5 mq; have Mq := Lib.hid mq; have HNn := Lib.hid hn5; have HXn := Lib.hid hx5; clear mq hn5 hx5)
  refine (HC3.out _).mono ?_
  rintro e w2 ⟨rfl, rfl⟩
  have m1 := Mq.out.emptyE (e := 5) rfl
  have M1_ := Lib.hid m1
  clear m1 M0
  go_wp2_with (at_builtin; refine wpList_appE rfl _ _ 24 rfl [] M1_.out el_u8c rfl _ A3 M3 c3 (by8 bd) rfl (M1_.out.src (S3.out.sub (fun _ h => h) (fun _ h => nomatch h))) (by8_one _) (by unfold maxLen; omega) (by omega) ?_; intro Ad cd w2 Nd Xd hn5 hx5 mq; have Mq := Lib.hid mq; have HNd := Lib.hid hn5; have HXd := Lib.hid hx5; clear mq hn5 hx5)
  refine (HC4.out _).mono ?_
  rintro e w3 ⟨rfl, rfl⟩
  obtain rfl : Nn = M2 := by have := HNn.out; omega
  obtain rfl : Nd = M3 := by have := HNd.out; omega
  obtain rfl : Xn = by8 nc := HXn.out
  obtain rfl : Xd = by8 bd := HXd.out
  clear HNn HXn HNd HXd M1_ HC1 HC2 HC3 HC4 S2 S3
  go_wp2_with fail
  refine (HNW.out _ _ _ Mq.out (R1.out.keep Mq.out.bel)).mono ?_
  rintro e w3 ⟨gq, Ak, ck, rfl, mq⟩
  have Mq := Lib.hid mq
  have HKY := Lib.hid (show ∀ w' bl ow, Mst W w' bl ow → (gq, 128, #[Value.slice Ak M1 ck]) ∈ bl → (⟨5, 1, .slice Ak M1 ck, M1, by8 kb⟩ : Ro) ∈ ow → KeyW w' gq kb from fun w' bl ow h a1 a2 => h.key a1 F1.out (h.rowSrc a2))
  have HSL2 := Lib.hid (HSL.out w3 gq An cn Ad cd (HKY.out _ _ _ mq (by simp) (by simp)) (mq.rbRow (List.mem_cons_of_mem _ (List.mem_cons_of_mem _ (List.mem_cons_self ..))) F2.out) (mq.rbRow (List.mem_cons_of_mem _ (List.mem_cons_self ..)) F3.out) (R4.out.keep mq.bel))
  clear mq HSL
  go_wp2_with fail
  refine HSL2.out.mono ?_
  rintro e w4 ⟨A5, c5, rfl, hc5, hc6, hb, hnb⟩
  obtain ⟨xb, m4, s4⟩ := Mq.out.retb hb hnb HSEL.out
  have M4 := Lib.hid (m4.emptyE (e := 5) rfl)
  have S4 := Lib.hid s4
  clear hb hnb m4 s4 Mq HSL2
  obtain ⟨T0, hT⟩ : ∃ T, (IntKind.u64.wrap which).tmod 3 = T := ⟨_, rfl⟩
  have hT3 := mod_u64 which 3 (by omega)
  rw [hT] at hT3
  obtain ⟨J0, hJ, hJ0, hJ1⟩ := mod_any pos ((n : Int) + 32) (by omega) (by omega)
  obtain ⟨J, rfl⟩ : ∃ J : Nat, J0 = (J : Int) := ⟨J0.toNat, by omega⟩
  have hJn : J < n + 32 := by omega
  have HJ := Lib.hid hJ
  have HT := Lib.hid hT
  clear hJ hT hJ0 hJ1
  have hn1 : (n : Int) ≤ 60 := by omega
  have hn0 : (0 : Int) ≤ n := by omega
  obtain ⟨z, hz⟩ : ∃ z, y ||| 1 = z := ⟨_, rfl⟩
  have hne : ((n : Int) + 32 == 0) = false := by rw [beq_eq_false_iff_ne]; omega
  go_upto_region 8 with (at_builtin; refine wpList_appE rfl _ _ 24 rfl [] M4.out el_u8c rfl _ A5 (n + 32) c5 (by8 SE) rfl (M4.out.src (S4.out.sub (fun _ h => h) (fun _ h => List.mem_cons_of_mem _ h))) (by8_one _) (by unfold maxLen; omega) (by omega) ?_; intro Ax cx w5 Nx Xx hn5 hx5 mq; have Mq := Lib.hid mq; have HNx := Lib.hid hn5; have HXx := Lib.hid hx5; clear mq hn5 hx5)
  obtain rfl : Nx = n + 32 := by have := HNx.out; omega
  obtain rfl : Xx = by8 SE := HXx.out
  clear HNx HXx M4 S4 BO hne
  have hT := HT.out
  have hT4 : T0 = 0 ∨ T0 = 1 ∨ T0 = 2 := by omega
  clear HT hT3
  rcases hT4 with rfl | rfl | rfl
  · skip
    obtain ⟨gx, rfl, _, _⟩ : ∃ g, Ax = some ⟨g, 0, none⟩ ∧ W.heap.size ≤ g ∧ g < w5.heap.size := by
      obtain ⟨A', c', e1, _, _, _, h⟩ := own_form (Mq.out.row [])
      injection e1 with e1 _ _
      rw [e1]
      exact h (by omega)
    have fJ := own_fr (Mq.out.row []) J
    have cJ := own_cell (Mq.out.row []) (k := J) (by rw [HSEL.out]; exact hJn)
    obtain ⟨u, hu⟩ : ∃ u, SE.getD J 0 = u := ⟨_, rfl⟩
    rw [hu] at cJ
    have hJ := HJ.out
    clear hu
    go_upto_region 14 with fail
    generalize hw6 : World.setCell _ _ _ = w6
    have mq := (Mq.out.rset [] J (Bv (u ^^^ z))).toV hw6 rfl
    rw [show Bv (u ^^^ z) = .int .u8 ((u ^^^ z).toNat : Int) from rfl, ← by8_set] at mq
    have HXL := Lib.hid (show (SE.set J (u ^^^ z)).length = n + 32 by rw [List.length_set]; exact HSEL.out)
    have Mq := Lib.hid mq
    obtain ⟨SX, hSX⟩ : ∃ l, SE.set J (u ^^^ z) = l := ⟨_, rfl⟩
    rw [hSX] at Mq HXL
    clear hw6 mq hSX fJ cJ hJ hT

    have Lq := Lib.hid (((((Lv.start _).add (Mq.out.rbRow (List.mem_cons_self ..) HXL.out)).add (Mq.out.rbRow (List.mem_cons_of_mem _ (List.mem_cons_of_mem _ (List.mem_cons_of_mem _ (List.mem_cons_self ..)))) F2.out)).add (Mq.out.rbRow (List.mem_cons_of_mem _ (List.mem_cons_of_mem _ (List.mem_cons_self ..))) F3.out)).add (R1.out.keep Mq.out.bel) |>.addk (HKY.out _ _ _ Mq.out (List.mem_append_right _ (List.mem_cons_self ..)) (List.mem_cons_of_mem _ (List.mem_cons_self ..))))
    have hcc := own_cap (Mq.out.row [])
    obtain ⟨hcc1, hcc2⟩ := hcc
    have HB0 := Lib.hid Mq.out.bel
    have HO := fun w h1 h2 h3 h4 => HOP.out w gq An cn nc Ad cd bd (some ⟨gx, 0, none⟩) cx SX h1 h2 h3 h4 (by rw [F3.out]; omega) (by rw [HXL.out]; omega) (by rw [HXL.out]; omega) hcc2
    have HR := fun w h1 h2 h3 h4 => HRO.out w An cn nc Ad cd bd (some ⟨gx, 0, none⟩) cx SX h1 h2 h3 h4 (by rw [F3.out]; omega) (by rw [HXL.out]; omega) (by rw [HXL.out]; omega) hcc2
    have h2w := opE_two (kb := kb) (nc := nc) (bd := bd) (l := SX) (by rw [F2.out]; omega) (by rw [HXL.out]; omega)
    simp only [F2.out, F3.out, HXL.out] at HO HR h2w
    clear Mq HOP HRO HKY R1 R4 hcc1 hcc2
    rcases h2w with ⟨xo, h2w, hxo⟩ | h2w
    · simp only [h2w] at HO HR
      obtain ⟨q, hq⟩ : ∃ q, xo.length = q := ⟨_, rfl⟩
      have HS := Lib.hid (fun w A A' c c' h1 h2 => same_any A A' c c' xo xo w h1 h2 (by unfold maxLen; omega))
      simp only [hq, decide_eq_true rfl] at HO HR HS
      have HO := Lib.hid HO
      have HR := Lib.hid HR
      have HQ := Lib.hid hq
      clear h2w hxo hq
      go_wp2_with fail
      refine (HO.out _ (Lq.out.k (by simp)) (Lq.out.r (by simp)) (Lq.out.r (by simp)) (Lq.out.r (by simp))).mono ?_
      rintro e w7 ⟨Ao, co, rfl, hb, hnb⟩
      have Lq := Lib.hid ((Lq.out.keep hb).add hnb.rb)
      clear hb hnb
      simp only [HQ.out]
      go_wp2_with fail
      refine (HMK.out _).mono ?_
      rintro e w8 ⟨rfl, hb⟩
      have Lq := Lib.hid (Lq.out.keep hb)
      clear hb
      go_wp2_with fail
      refine (HR.out _ (Lq.out.r (by simp)) (Lq.out.r (by simp)) (Lq.out.r (by simp)) (Lq.out.r (by simp))).mono ?_
      rintro e w9 ⟨Ap, cp, rfl, hb, hnb⟩
      have Lq := Lib.hid ((Lq.out.keep hb).add hnb.rb)
      clear hb hnb
      simp only [HQ.out]
      go_wp2_with fail
      refine (known03 _).mono ?_
      rintro e w10 ⟨rfl, hb⟩
      have Lq := Lib.hid (Lq.out.keep hb)
      clear hb
      go_wp2_with fail
      refine (HS.out _ _ _ _ _ (Lq.out.r (by simp)) (Lq.out.r (by simp))).mono ?_
      rintro e w11 ⟨rfl, hb⟩
      have Lq := Lib.hid (Lq.out.keep hb)
      clear hb
      go_wp2_with fail
      go_ret
      exact ⟨rfl, Bsz HB0.out Lq.out.bel⟩
    · simp only [h2w] at HO HR
      have HO := Lib.hid HO
      have HR := Lib.hid HR
      clear h2w
      go_wp2_with fail
      refine (HO.out _ (Lq.out.k (by simp)) (Lq.out.r (by simp)) (Lq.out.r (by simp)) (Lq.out.r (by simp))).mono ?_
      rintro e w7 ⟨Ao, co, rfl, hb, hnb⟩
      have Lq := Lib.hid (Lq.out.keep hb)
      clear hb hnb
      simp only [List.length_nil]
      go_wp2_with fail
      refine (HMK.out _).mono ?_
      rintro e w8 ⟨rfl, hb⟩
      have Lq := Lib.hid (Lq.out.keep hb)
      clear hb
      go_wp2_with fail
      refine (HR.out _ (Lq.out.r (by simp)) (Lq.out.r (by simp)) (Lq.out.r (by simp)) (Lq.out.r (by simp))).mono ?_
      rintro e w9 ⟨Ap, cp, rfl, hb, hnb⟩
      have Lq := Lib.hid (Lq.out.keep hb)
      clear hb hnb
      simp only [List.length_nil]
      go_wp2_with fail
      refine (known03 _).mono ?_
      rintro e w10 ⟨rfl, hb⟩
      have Lq := Lib.hid (Lq.out.keep hb)
      clear hb
      go_wp2_with fail
      go_ret
      exact ⟨rfl, Bsz HB0.out Lq.out.bel⟩
  · skip
    go_upto_region 14 with (at_builtin; refine wpList_appE rfl _ _ 24 rfl [_, _, _] (Mq.out.alloc _) el_u8c rfl _ _ 1 1 _ rfl (Rd.new1 _ #[Bv z] _ rfl) (one1 _ rfl) (by unfold maxLen; omega) (by omega) ?_; intro Aq cq w6 Nq Xq hn5 hx5 mq; have Mq := Lib.hid mq; have HNq := Lib.hid hn5; have HXq := Lib.hid hx5; clear mq hn5 hx5)
    obtain rfl : Xq = by8 (nc ++ [z]) := by rw [HXq.out, by8_append]; rfl
    have HQL := Lib.hid (show (nc ++ [z]).length = Nq by rw [List.length_append, F2.out, HNq.out]; rfl)
    have hq1 : Nq ≤ Nn + 1 := by have := HNq.out; omega
    obtain ⟨nq, hnq⟩ : ∃ l, nc ++ [z] = l := ⟨_, rfl⟩
    rw [hnq] at Mq HQL
    clear HXq HNq hnq hT

    have Lq := Lib.hid (((((Lv.start _).add (Mq.out.rbRow (List.mem_cons_self ..) HSEL.out)).add (Mq.out.rbRow (List.mem_cons_of_mem _ (List.mem_cons_of_mem _ (List.mem_cons_of_mem _ (List.mem_cons_self ..)))) HQL.out)).add (Mq.out.rbRow (List.mem_cons_of_mem _ (List.mem_cons_of_mem _ (List.mem_cons_self ..))) F3.out)).add (R1.out.keep Mq.out.bel) |>.addk (HKY.out _ _ _ Mq.out (List.mem_append_right _ (List.mem_cons_self ..)) (List.mem_cons_of_mem _ (List.mem_cons_self ..))))
    have hcc := own_cap (Mq.out.row [])
    obtain ⟨hcc1, hcc2⟩ := hcc
    have HB0 := Lib.hid Mq.out.bel
    have HO := fun w h1 h2 h3 h4 => HOP.out w gq Aq cq nq Ad cd bd Ax cx SE h1 h2 h3 h4 (by rw [F3.out]; omega) (by rw [HSEL.out]; omega) (by rw [HSEL.out]; omega) hcc2
    have HR := fun w h1 h2 h3 h4 => HRO.out w Aq cq nq Ad cd bd Ax cx SE h1 h2 h3 h4 (by rw [F3.out]; omega) (by rw [HSEL.out]; omega) (by rw [HSEL.out]; omega) hcc2
    have h2w := opE_two (kb := kb) (nc := nq) (bd := bd) (l := SE) (by rw [HQL.out]; omega) (by rw [HSEL.out]; omega)
    simp only [HQL.out, F3.out, HSEL.out] at HO HR h2w
    clear Mq HOP HRO HKY R1 R4 hcc1 hcc2
    rcases h2w with ⟨xo, h2w, hxo⟩ | h2w
    · simp only [h2w] at HO HR
      obtain ⟨q, hq⟩ : ∃ q, xo.length = q := ⟨_, rfl⟩
      have HS := Lib.hid (fun w A A' c c' h1 h2 => same_any A A' c c' xo xo w h1 h2 (by unfold maxLen; omega))
      simp only [hq, decide_eq_true rfl] at HO HR HS
      have HO := Lib.hid HO
      have HR := Lib.hid HR
      have HQ := Lib.hid hq
      clear h2w hxo hq
      go_wp2_with fail
      refine (HO.out _ (Lq.out.k (by simp)) (Lq.out.r (by simp)) (Lq.out.r (by simp)) (Lq.out.r (by simp))).mono ?_
      rintro e w7 ⟨Ao, co, rfl, hb, hnb⟩
      have Lq := Lib.hid ((Lq.out.keep hb).add hnb.rb)
      clear hb hnb
      simp only [HQ.out]
      go_wp2_with fail
      refine (HMK.out _).mono ?_
      rintro e w8 ⟨rfl, hb⟩
      have Lq := Lib.hid (Lq.out.keep hb)
      clear hb
      go_wp2_with fail
      refine (HR.out _ (Lq.out.r (by simp)) (Lq.out.r (by simp)) (Lq.out.r (by simp)) (Lq.out.r (by simp))).mono ?_
      rintro e w9 ⟨Ap, cp, rfl, hb, hnb⟩
      have Lq := Lib.hid ((Lq.out.keep hb).add hnb.rb)
      clear hb hnb
      simp only [HQ.out]
      go_wp2_with fail
      refine (known03 _).mono ?_
      rintro e w10 ⟨rfl, hb⟩
      have Lq := Lib.hid (Lq.out.keep hb)
      clear hb
      go_wp2_with fail
      refine (HS.out _ _ _ _ _ (Lq.out.r (by simp)) (Lq.out.r (by simp))).mono ?_
      rintro e w11 ⟨rfl, hb⟩
      have Lq := Lib.hid (Lq.out.keep hb)
      clear hb
      go_wp2_with fail
      go_ret
      exact ⟨rfl, Bsz HB0.out Lq.out.bel⟩
    · simp only [h2w] at HO HR
      have HO := Lib.hid HO
      have HR := Lib.hid HR
      clear h2w
      go_wp2_with fail
      refine (HO.out _ (Lq.out.k (by simp)) (Lq.out.r (by simp)) (Lq.out.r (by simp)) (Lq.out.r (by simp))).mono ?_
      rintro e w7 ⟨Ao, co, rfl, hb, hnb⟩
      have Lq := Lib.hid (Lq.out.keep hb)
      clear hb hnb
      simp only [List.length_nil]
      go_wp2_with fail
      refine (HMK.out _).mono ?_
      rintro e w8 ⟨rfl, hb⟩
      have Lq := Lib.hid (Lq.out.keep hb)
      clear hb
      go_wp2_with fail
      refine (HR.out _ (Lq.out.r (by simp)) (Lq.out.r (by simp)) (Lq.out.r (by simp)) (Lq.out.r (by simp))).mono ?_
      rintro e w9 ⟨Ap, cp, rfl, hb, hnb⟩
      have Lq := Lib.hid (Lq.out.keep hb)
      clear hb hnb
      simp only [List.length_nil]
      go_wp2_with fail
      refine (known03 _).mono ?_
      rintro e w10 ⟨rfl, hb⟩
      have Lq := Lib.hid (Lq.out.keep hb)
      clear hb
      go_wp2_with fail
      go_ret
      exact ⟨rfl, Bsz HB0.out Lq.out.bel⟩
  · skip
    go_upto_region 14 with (at_builtin; refine wpList_appE rfl _ _ 24 rfl [_, _] (Mq.out.alloc _) el_u8c rfl _ _ 1 1 _ rfl (Rd.new1 _ #[Bv z] _ rfl) (one1 _ rfl) (by unfold maxLen; omega) (by omega) ?_; intro Aq cq w6 Nq Xq hn5 hx5 mq; have Mq := Lib.hid mq; have HNq := Lib.hid hn5; have HXq := Lib.hid hx5; clear mq hn5 hx5)
    obtain rfl : Xq = by8 (bd ++ [z]) := by rw [HXq.out, by8_append]; rfl
    have HQL := Lib.hid (show (bd ++ [z]).length = Nq by rw [List.length_append, F3.out, HNq.out]; rfl)
    have hq1 : Nq ≤ Nd + 1 := by have := HNq.out; omega
    obtain ⟨nq, hnq⟩ : ∃ l, bd ++ [z] = l := ⟨_, rfl⟩
    rw [hnq] at Mq HQL
    clear HXq HNq hnq hT

    have Lq := Lib.hid (((((Lv.start _).add (Mq.out.rbRow (List.mem_cons_self ..) HSEL.out)).add (Mq.out.rbRow (List.mem_cons_of_mem _ (List.mem_cons_of_mem _ (List.mem_cons_of_mem _ (List.mem_cons_self ..)))) F2.out)).add (Mq.out.rbRow (List.mem_cons_of_mem _ (List.mem_cons_of_mem _ (List.mem_cons_self ..))) HQL.out)).add (R1.out.keep Mq.out.bel) |>.addk (HKY.out _ _ _ Mq.out (List.mem_append_right _ (List.mem_cons_self ..)) (List.mem_cons_of_mem _ (List.mem_cons_self ..))))
    have hcc := own_cap (Mq.out.row [])
    obtain ⟨hcc1, hcc2⟩ := hcc
    have HB0 := Lib.hid Mq.out.bel
    have HO := fun w h1 h2 h3 h4 => HOP.out w gq An cn nc Aq cq nq Ax cx SE h1 h2 h3 h4 (by rw [HQL.out]; omega) (by rw [HSEL.out]; omega) (by rw [HSEL.out]; omega) hcc2
    have HR := fun w h1 h2 h3 h4 => HRO.out w An cn nc Aq cq nq Ax cx SE h1 h2 h3 h4 (by rw [HQL.out]; omega) (by rw [HSEL.out]; omega) (by rw [HSEL.out]; omega) hcc2
    have h2w := opE_two (kb := kb) (nc := nc) (bd := nq) (l := SE) (by rw [F2.out]; omega) (by rw [HSEL.out]; omega)
    simp only [F2.out, HQL.out, HSEL.out] at HO HR h2w
    clear Mq HOP HRO HKY R1 R4 hcc1 hcc2
    rcases h2w with ⟨xo, h2w, hxo⟩ | h2w
    · simp only [h2w] at HO HR
      obtain ⟨q, hq⟩ : ∃ q, xo.length = q := ⟨_, rfl⟩
      have HS := Lib.hid (fun w A A' c c' h1 h2 => same_any A A' c c' xo xo w h1 h2 (by unfold maxLen; omega))
      simp only [hq, decide_eq_true rfl] at HO HR HS
      have HO := Lib.hid HO
      have HR := Lib.hid HR
      have HQ := Lib.hid hq
      clear h2w hxo hq
      go_wp2_with fail
      refine (HO.out _ (Lq.out.k (by simp)) (Lq.out.r (by simp)) (Lq.out.r (by simp)) (Lq.out.r (by simp))).mono ?_
      rintro e w7 ⟨Ao, co, rfl, hb, hnb⟩
      have Lq := Lib.hid ((Lq.out.keep hb).add hnb.rb)
      clear hb hnb
      simp only [HQ.out]
      go_wp2_with fail
      refine (HMK.out _).mono ?_
      rintro e w8 ⟨rfl, hb⟩
      have Lq := Lib.hid (Lq.out.keep hb)
      clear hb
      go_wp2_with fail
      refine (HR.out _ (Lq.out.r (by simp)) (Lq.out.r (by simp)) (Lq.out.r (by simp)) (Lq.out.r (by simp))).mono ?_
      rintro e w9 ⟨Ap, cp, rfl, hb, hnb⟩
      have Lq := Lib.hid ((Lq.out.keep hb).add hnb.rb)
      clear hb hnb
      simp only [HQ.out]
      go_wp2_with fail
      refine (known03 _).mono ?_
      rintro e w10 ⟨rfl, hb⟩
      have Lq := Lib.hid (Lq.out.keep hb)
      clear hb
      go_wp2_with fail
      refine (HS.out _ _ _ _ _ (Lq.out.r (by simp)) (Lq.out.r (by simp))).mono ?_
      rintro e w11 ⟨rfl, hb⟩
      have Lq := Lib.hid (Lq.out.keep hb)
      clear hb
      go_wp2_with fail
      go_ret
      exact ⟨rfl, Bsz HB0.out Lq.out.bel⟩
    · simp only [h2w] at HO HR
      have HO := Lib.hid HO
      have HR := Lib.hid HR
      clear h2w
      go_wp2_with fail
      refine (HO.out _ (Lq.out.k (by simp)) (Lq.out.r (by simp)) (Lq.out.r (by simp)) (Lq.out.r (by simp))).mono ?_
      rintro e w7 ⟨Ao, co, rfl, hb, hnb⟩
      have Lq := Lib.hid (Lq.out.keep hb)
      clear hb hnb
      simp only [List.length_nil]
      go_wp2_with fail
      refine (HMK.out _).mono ?_
      rintro e w8 ⟨rfl, hb⟩
      have Lq := Lib.hid (Lq.out.keep hb)
      clear hb
      go_wp2_with fail
      refine (HR.out _ (Lq.out.r (by simp)) (Lq.out.r (by simp)) (Lq.out.r (by simp)) (Lq.out.r (by simp))).mono ?_
      rintro e w9 ⟨Ap, cp, rfl, hb, hnb⟩
      have Lq := Lib.hid (Lq.out.keep hb)
      clear hb hnb
      simp only [List.length_nil]
      go_wp2_with fail
      refine (known03 _).mono ?_
      rintro e w10 ⟨rfl, hb⟩
      have Lq := Lib.hid (Lq.out.keep hb)
      clear hb
      go_wp2_with fail
      go_ret
      exact ⟨rfl, Bsz HB0.out Lq.out.bel⟩
theorem contract_sealTurns (W : World) (v0 v1 v2 v3 v4 v5 v6 : Value) (a0 : ∃ r : Rw, v0 = r.v ∧ r.ok .u8 W) (a1 : ∃ r : Rw, v1 = r.v ∧ r.ok .u8 W) (a2 : ∃ r : Rw, v2 = r.v ∧ r.ok .u8 W) (a3 : ∃ r : Rw, v3 = r.v ∧ r.ok .u8 W) (a4 : ∃ z, v4 = .int .i64 z ∧ in64 z) (a5 : ∃ b : UInt8, v5 = .int .u8 (b.toNat : Int)) (a6 : ∃ z, v6 = .int .i64 z ∧ in64 z) :
    Calls Try.prog 9 #[v0, v1, v2, v3, v4, v5, v6] W fun e W' => e = .returned (.bool true) ∧ Below W.heap.size W W' := by
  obtain ⟨p, rfl, hp⟩ := a0
  obtain ⟨q, rfl, hq⟩ := a1
  obtain ⟨r, rfl, hr⟩ := a2
  obtain ⟨s, rfl, hs⟩ := a3
  obtain ⟨a, rfl, _⟩ := a4
  obtain ⟨y, rfl⟩ := a5
  obtain ⟨c, rfl, _⟩ := a6
  obtain ⟨l1, e1, g1, k1⟩ := rw_pt hp
  obtain ⟨l2, e2, g2, k2⟩ := rw_pt hq
  obtain ⟨l3, e3, g3, k3⟩ := rw_pt hr
  obtain ⟨l4, e4, g4, k4⟩ := rw_pt hs
  rw [e1, e2, e3, e4]
  exact sealTurns_main W p.A q.A r.A s.A p.c q.c r.c s.c l1 l2 l3 l4 g1 k1 g2 k2 g3 k3 g4 k4 a y c
end Go.Proofs.Ytiakgohipnbdbaa
