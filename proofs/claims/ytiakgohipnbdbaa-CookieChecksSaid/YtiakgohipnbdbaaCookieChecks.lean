/-
  vigillaw10.CookieChecks returns true, whatever it is called with. Conditions: none but that the slices can be read.
-/
import Derived.Test.YtiakgohipnbdbaaCk7
namespace Go.Proofs.Ytiakgohipnbdbaa
set_option linter.unusedVariables false
set_option linter.unusedSimpArgs false
open Go.RowKit

theorem fewP_old3 {W : World} {ps : List Pt} (h : ∀ p ∈ ps, RB W W.heap.size p.A p.l) : ∀ q ∈ fewP 3 40 ps, RB W W.heap.size q.A q.l := fewP_old h
theorem okCk_nat {a t : Int} (h : okCk a t = true) : ∃ a' t' : Nat, a = (a' : Int) ∧ t = (t' : Int) ∧ a' < 65536 ∧ t' ≤ 1073741824 := by
  simp only [okCk, decide_eq_true_eq] at h
  exact ⟨a.toNat, t.toNat, by omega, by omega, by omega, by omega⟩
set_option maxRecDepth 100000 in
set_option maxHeartbeats 3200000 in
theorem cookieChecks_main (W : World) (A B C : Option Addr) (c d f : Nat) (l ck : List UInt8) (ps : List Pt) (hr : RB W W.heap.size A l) (hc : l.length ≤ c ∧ c ≤ 9223372036854775807) (hr' : RB W W.heap.size B ck) (hd : ck.length ≤ d ∧ d ≤ 9223372036854775807) (a t : Int)
    (hp : Rd W W.heap.size 1 C ps.length (ps.map Pt.v)) (hpc : ∀ p ∈ ps, RB W W.heap.size p.A p.l ∧ p.l.length ≤ p.c ∧ p.c ≤ 9223372036854775807) (hpn : ps.length ≤ 9223372036854775807) :
    Calls Try.prog 5 #[.slice A l.length c, .slice B ck.length d, .int .i64 a, .int .i64 t, .slice C ps.length f] W fun e W' => e = .returned (.bool true) ∧ Below W.heap.size W W' := by
  have HBK := Lib.hid (baker_any W A c l hr hc)
  obtain ⟨N, hN⟩ : ∃ N, l.length = N := ⟨_, rfl⟩
  obtain ⟨M, hM⟩ : ∃ N, ck.length = N := ⟨_, rfl⟩
  have hkl := keyL_len l
  obtain ⟨kb, hkb⟩ : ∃ k, keyL l = k := ⟨_, rfl⟩
  rw [hkb] at HBK hkl
  obtain ⟨KN, hKN⟩ : ∃ N, kb.length = N := ⟨_, rfl⟩
  rw [hKN] at HBK hkl
  have hk70 : KN ≤ 70 := by omega
  have HKN := Lib.hid hKN
  rw [hN] at HBK hc ⊢
  rw [hM] at hd ⊢
  obtain ⟨hd1, hd2⟩ := hd
  have hr3 := hr'.cut 20
  obtain ⟨m, hm, m2, m1⟩ := cut_n M 20
  obtain ⟨ck', hck'⟩ : ∃ l', ck.take 20 = l' := ⟨_, rfl⟩
  have hcn : ck'.length = m := by rw [← hck', List.length_take]; omega
  rw [hck'] at hr3
  have hmin2 : min (M : Int) 20 = m := hm.symm
  have m4 : (0 : Int) ≤ m := by omega
  have m5 : (m : Int) ≤ d := by omega
  have HCN := Lib.hid hcn
  have R2 := Lib.hid (show Rd W W.heap.size 1 B m (by8 ck') from by rw [← hcn]; exact hr3)
  have HF := Lib.hid (show ∀ w', Below W.heap.size W w' → Calls Try.prog 27 #[.slice C ps.length f] w' _ from fun w' hb => few10_any w' C f ps ⟨(hp.below hb).more hb.size, fun p h => ((hpc p h).1.below hb).more hb.size⟩ (fun p h => (hpc p h).2) hpn)
  have hq := fewP_old3 fun p h => (hpc p h).1
  have hq6 := fewP_le 3 40 ps
  have hlen : (fewP 3 40 ps).length ≤ 3 := by rw [fewP_len]; omega
  obtain ⟨qs, hqs⟩ : ∃ q, fewP 3 40 ps = q := ⟨_, rfl⟩
  rw [hqs] at HF hq hlen hq6
  have HQ := Lib.hid hq
  have HQ6 := Lib.hid hq6
  obtain ⟨g, hG⟩ : ∃ n, qs.length = n := ⟨_, rfl⟩
  rw [hG] at HF hlen
  have HG := Lib.hid hG
  obtain ⟨pn, hPN⟩ : ∃ n, ps.length = n := ⟨_, rfl⟩
  rw [hPN] at HF ⊢
  obtain ⟨KT, hKT⟩ := rsum_ex
  have HKT := Lib.hid hKT
  have HMK := Lib.hid hKT.make
  clear hr hr' hr3 hcn hck' hm hp hpc hpn hq hq6 hqs hPN hKT hG hN hM hkl hkb hKN
  go_enter Try.func5, Try.ntmps5
  go_wp2_with fail
  refine HBK.out.mono ?_
  rintro e w1 ⟨gb, gK, A1, c1, A2, c2, rfl, mq⟩
  have Mq := Lib.hid mq
  clear mq HBK
  go_wp2_with fail
  refine (HF.out _ Mq.out.bel).mono ?_
  rintro e w2 ⟨A3, c3, rfl, mq⟩
  have Mq := Lib.hid (Mq.out.join mq)
  obtain ⟨OW, hOW⟩ : ∃ b : List Ro, [⟨24, 1, .slice A3 g c3, g, qs.map Pt.v⟩, ⟨5, 1, .slice A2 KN c2, KN, by8 kb⟩, ⟨5, 1, .slice A1 KN c1, KN, by8 kb⟩] = b := ⟨_, rfl⟩
  have Mq := Lib.hid (show Mst W w2 ((gb, 117, bkc 0 0 gK) :: [(gK, 128, #[.slice A2 KN c2])]) OW from by rw [← hOW]; exact Mq.out)
  have S1 := Lib.hid (show SPts W [] OW A3 qs from ⟨by rw [HG.out]; exact (Mq.out.sub (List.nil_sublist _) (List.Sublist.refl _)).rowSrc (e := 24) (c := c3) (by rw [← hOW]; simp), fun p h => Src.old (HQ.out p h)⟩)
  have S0 := Lib.hid (show Src W [] OW 1 A1 KN (by8 kb) from (Mq.out.sub (List.nil_sublist _) (List.Sublist.refl _)).rowSrc (e := 5) (c := c1) (by rw [← hOW]; simp))
  have SK := Lib.hid (show Src W [] OW 1 A2 KN (by8 kb) from (Mq.out.sub (List.nil_sublist _) (List.Sublist.refl _)).rowSrc (e := 5) (c := c2) (by rw [← hOW]; simp))
  have HOW := Lib.hid hOW
  clear mq HF hOW
  have HKW := Lib.hid (show ∀ w' x y, Mst W w' ((gb, 117, bkc x y gK) :: [(gK, 128, #[.slice A2 KN c2])]) OW → KeyW w' gK kb from fun w' x y h =>
    h.key (List.mem_cons_of_mem _ (List.mem_singleton_self _)) HKN.out (SK.out.sub (fun _ h => absurd h List.not_mem_nil) (fun _ h => h)))
  have HPT := Lib.hid (show ∀ w' x y, Mst W w' ((gb, 117, bkc x y gK) :: [(gK, 128, #[.slice A2 KN c2])]) OW → Pts w' A3 qs from fun w' x y h => h.pts (S1.out.sub (fun _ h => absurd h List.not_mem_nil) (fun _ h => h)))
  have HRR := Lib.hid (fun w => refright_any a t w)
  go_wp2_with fail
  by_cases hok : okCk a t = true
  rotate_left
  · have hokf : okCk a t = false := by revert hok; cases okCk a t <;> simp
    have HCH := Lib.hid (fun w v v' => ckcheck2_no w gb v v' a t hokf)
    have HCT := Lib.hid (counts_any w2 gb gK 0 0 (by omega) (by omega) (Mq.out.blk []))
    rw [hokf] at HRR
    clear hok hokf
    refine (HCH.out _ _ _).mono ?_
    rintro e w3 ⟨rfl, rfl⟩
    go_wp2_with fail
    refine HCT.out.mono ?_
    rintro e w4 ⟨rfl, hb⟩
    have Mq := Lib.hid (Mq.out.below hb)
    clear hb
    go_wp2_with fail
    try go_step3
    try go_wp2_with fail
    refine (HRR.out _).mono ?_
    rintro e w5 ⟨rfl, rfl⟩
    go_wp2_with fail
    refine (known10 _).mono ?_
    rintro e w6 ⟨rfl, hb⟩
    have Mq := Lib.hid (Mq.out.below hb)
    clear hb
    go_wp2
    try rw [Exit.noGoto_ret]
    go_ret
    exact ⟨rfl, Mq.out.bel⟩
  by_cases h16 : m = 16
  rotate_left
  · have HCH := Lib.hid (fun w v' => ckcheck2_len w gb B m d v' a t hok h16)
    have HCT := Lib.hid (counts_any w2 gb gK 0 0 (by omega) (by omega) (Mq.out.blk []))
    have hne : ((m : Int) != 16) = true := by rw [bne_iff_ne]; omega
    rw [hok] at HRR
    clear hok h16
    refine (HCH.out _ _).mono ?_
    rintro e w3 ⟨rfl, rfl⟩
    go_wp2_with fail
    refine HCT.out.mono ?_
    rintro e w4 ⟨rfl, hb⟩
    have Mq := Lib.hid (Mq.out.below hb)
    clear hb
    go_wp2_with fail
    try go_step3
    try go_wp2_with fail
    refine (HRR.out _).mono ?_
    rintro e w5 ⟨rfl, rfl⟩
    go_wp2_with fail
    refine (known10 _).mono ?_
    rintro e w6 ⟨rfl, hb⟩
    have Mq := Lib.hid (Mq.out.below hb)
    clear hb
    go_wp2
    try rw [Exit.noGoto_ret]
    go_ret
    exact ⟨rfl, Mq.out.bel⟩
  subst h16
  obtain ⟨a', t', rfl, rfl, ha, ht⟩ := okCk_nat hok
  have hkn := HKN.out
  have hcn := HCN.out
  have HCB := Lib.hid (show ∀ w' x y, Mst W w' ((gb, 117, bkc x y gK) :: [(gK, 128, #[.slice A2 KN c2])]) OW → RB w' w'.heap.size B ck' from fun w' x y h => by
    have := (R2.out.below h.bel).more h.bel.size
    rw [← hcn] at this
    exact this)
  have HCH := Lib.hid (ckcheck_M W w2 [(gK, 128, #[.slice A2 KN c2])] OW gb gK 0 0 kb Mq.out (by omega) (fun w' x y h => HKW.out w' x y h) A3 c3 qs (fun w' x y h => HPT.out w' x y h) (by rw [HG.out]; omega) (fun p h => by have := HQ6.out p h; omega) a' t' ha ht (by omega) (by omega) B d ck' (fun w' x y h => HCB.out w' x y h) hcn)
  have hgn := HG.out
  have HFR := Lib.hid (show ∀ w' x y, Mst W w' ((gb, 117, bkc x y gK) :: [(gK, 128, #[.slice A2 KN c2])]) OW → Calls Try.prog 36 #[.agg KT, .slice A1 KN c1, .slice B 16 d, .int .i64 (a' : Int), .int .i64 (t' : Int), .slice A3 g c3] w' fun r w2 => r = .returned (.bool (freshB kb (t' / 64) a' (qs.map Pt.l) ck')) ∧ Below w'.heap.size w' w2 from fun w' x y h => by
    have hq6 := HQ6.out
    have hS := h.src (S0.out.sub (fun _ h => absurd h List.not_mem_nil) (fun _ h => h))
    rw [← hkn] at hS
    have := reffresh_any KT HKT.out w' A1 c1 kb hS (by omega) B d ck' (HCB.out w' x y h) (by omega) a' t' ha ht A3 c3 qs (HPT.out w' x y h) (by omega) (fun p h => by have := hq6 p h; omega)
    rw [hkn, hcn, hgn] at this
    exact this)
  rw [HG.out] at HCH
  obtain ⟨fr, hfr⟩ : ∃ b, freshB kb (t' / 64) a' (qs.map Pt.l) ck' = b := ⟨_, rfl⟩
  rw [hfr] at HCH HFR
  rw [hok] at HRR
  have HCT := Lib.hid (show ∀ w' y, 0 ≤ y ∧ y ≤ 2147483647 → Mst W w' ((gb, 117, bkc 0 y gK) :: [(gK, 128, #[.slice A2 KN c2])]) OW → _ from fun w' y hy h => counts_any w' gb gK 0 y (by omega) hy (h.blk []))
  clear hok hgn hkn hcn hfr
  refine HCH.out.mono ?_
  rintro e w3 ⟨h1, h2⟩
  cases fr with
  | true =>
    obtain ⟨rfl, mq⟩ := h1 rfl
    have Mq := Lib.hid mq
    clear h1 h2 mq
    go_wp2_with fail
    refine (HCT.out _ 0 (by omega) Mq.out).mono ?_
    rintro e w4 ⟨rfl, hb⟩
    have Mq := Lib.hid (Mq.out.below hb)
    clear hb
    go_wp2_with fail
    try go_step3
    try go_wp2_with fail
    refine (HRR.out _).mono ?_
    rintro e w5 ⟨rfl, rfl⟩
    go_wp2_with fail
    refine (HMK.out _).mono ?_
    rintro e w6 ⟨rfl, hb⟩
    have Mq := Lib.hid (Mq.out.below hb)
    clear hb
    go_wp2_with fail
    refine (HFR.out _ _ _ Mq.out).mono ?_
    rintro e w7 ⟨rfl, hb⟩
    have Mq := Lib.hid (Mq.out.below hb)
    clear hb
    go_wp2_with fail
    refine (known10 _).mono ?_
    rintro e w8 ⟨rfl, hb⟩
    have Mq := Lib.hid (Mq.out.below hb)
    clear hb
    go_wp2
    try rw [Exit.noGoto_ret]
    go_ret
    exact ⟨rfl, Mq.out.bel⟩
  | false =>
    obtain ⟨rfl, mq⟩ := h2 rfl
    have Mq := Lib.hid (show Mst W w3 ((gb, 117, bkc 0 1 gK) :: [(gK, 128, #[.slice A2 KN c2])]) OW from mq)
    clear h1 h2 mq
    go_wp2_with fail
    refine (HCT.out _ 1 (by omega) Mq.out).mono ?_
    rintro e w4 ⟨rfl, hb⟩
    have Mq := Lib.hid (Mq.out.below hb)
    clear hb
    go_wp2_with fail
    try go_step3
    try go_wp2_with fail
    refine (HRR.out _).mono ?_
    rintro e w5 ⟨rfl, rfl⟩
    go_wp2_with fail
    refine (HMK.out _).mono ?_
    rintro e w6 ⟨rfl, hb⟩
    have Mq := Lib.hid (Mq.out.below hb)
    clear hb
    go_wp2_with fail
    refine (HFR.out _ _ _ Mq.out).mono ?_
    rintro e w7 ⟨rfl, hb⟩
    have Mq := Lib.hid (Mq.out.below hb)
    clear hb
    go_wp2_with fail
    refine (known10 _).mono ?_
    rintro e w8 ⟨rfl, hb⟩
    have Mq := Lib.hid (Mq.out.below hb)
    clear hb
    go_wp2
    try rw [Exit.noGoto_ret]
    go_ret
    exact ⟨rfl, Mq.out.bel⟩
theorem contract_cookieChecks (W : World) (v0 v1 v2 v3 v4 : Value) (a0 : ∃ r : Rw, v0 = r.v ∧ r.ok .u8 W) (a1 : ∃ r : Rw, v1 = r.v ∧ r.ok .u8 W) (a2 : ∃ z, v2 = .int .i64 z ∧ in64 z) (a3 : ∃ z, v3 = .int .i64 z ∧ in64 z) (a4 : ∃ A c, ∃ rows : List Rw, v4 = .slice A rows.length c ∧ rows.length ≤ c ∧ c ≤ maxLen ∧ Rd W W.heap.size 1 A rows.length (rows.map Rw.v) ∧ ∀ x ∈ rows, x.ok .u8 W) :
    Calls Try.prog 5 #[v0, v1, v2, v3, v4] W fun e W' => e = .returned (.bool true) ∧ Below W.heap.size W W' := by
  obtain ⟨r, rfl, hr⟩ := a0
  obtain ⟨s, rfl, hs⟩ := a1
  obtain ⟨x, rfl, hx⟩ := a2
  obtain ⟨y, rfl, hy⟩ := a3
  obtain ⟨A, c, rows, rfl, h1, h2, h3, h4⟩ := a4
  obtain ⟨ps, e1, e2, e3⟩ := rows_pt rows h4
  rw [← e1, ← e2] at h3
  rw [← e2] at h1 ⊢
  obtain ⟨l, e, g1, g2, g3⟩ := rw_pt hr
  obtain ⟨k, e', g1', g2', g3'⟩ := rw_pt hs
  rw [e, e']
  exact cookieChecks_main W r.A s.A A r.c s.c c l k ps g1 ⟨g2, g3⟩ g1' ⟨g2', g3'⟩ x y h3 e3 (by unfold maxLen at h2; omega)
end Go.Proofs.Ytiakgohipnbdbaa
