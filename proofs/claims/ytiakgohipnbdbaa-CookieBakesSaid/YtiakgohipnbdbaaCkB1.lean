/- CookieBakes where the address or the tick is not right. -/
import Derived.Test.YtiakgohipnbdbaaCk7
import Derived.Test.YtiakgohipnbdbaaExt
namespace Go.Proofs.Ytiakgohipnbdbaa
set_option linter.unusedVariables false
set_option linter.unusedSimpArgs false
open Go.RowKit
theorem fewP_old4 {W : World} {ps : List Pt} (h : ∀ p ∈ ps, RB W W.heap.size p.A p.l) : ∀ q ∈ fewP 3 40 ps, RB W W.heap.size q.A q.l := fewP_old h
set_option maxRecDepth 100000 in
set_option maxHeartbeats 3200000 in
theorem cookieBakes_no (W : World) (A C : Option Addr) (c f : Nat) (l : List UInt8) (ps : List Pt) (hr : RB W W.heap.size A l) (hc : l.length ≤ c ∧ c ≤ 9223372036854775807) (a t lt : Int)
    (hp : Rd W W.heap.size 1 C ps.length (ps.map Pt.v)) (hpc : ∀ p ∈ ps, RB W W.heap.size p.A p.l ∧ p.l.length ≤ p.c ∧ p.c ≤ 9223372036854775807) (hpn : ps.length ≤ 9223372036854775807) (hokf : okCk a t = false) :
    Calls Try.prog 4 #[.slice A l.length c, .int .i64 a, .int .i64 t, .int .i64 lt, .slice C ps.length f] W fun e W' => e = .returned (.bool true) ∧ Below W.heap.size W W' := by
  have HBK := Lib.hid (baker_any W A c l hr hc)
  obtain ⟨N, hN⟩ : ∃ N, l.length = N := ⟨_, rfl⟩
  have hkl := keyL_len l
  obtain ⟨kb, hkb⟩ : ∃ k, keyL l = k := ⟨_, rfl⟩
  rw [hkb] at HBK hkl
  obtain ⟨KN, hKN⟩ : ∃ N, kb.length = N := ⟨_, rfl⟩
  rw [hKN] at HBK hkl
  have hk70 : KN ≤ 70 := by omega
  have HKN := Lib.hid hKN
  rw [hN] at HBK hc ⊢
  have HF := Lib.hid (show ∀ w', Below W.heap.size W w' → Calls Try.prog 27 #[.slice C ps.length f] w' _ from fun w' hb => few10_any w' C f ps ⟨(hp.below hb).more hb.size, fun p h => ((hpc p h).1.below hb).more hb.size⟩ (fun p h => (hpc p h).2) hpn)
  have hq := fewP_old4 fun p h => (hpc p h).1
  have hq6 := fewP_le 3 40 ps
  have hlen : (fewP 3 40 ps).length ≤ 3 := by rw [fewP_len]; omega
  obtain ⟨qs, hqs⟩ : ∃ q, fewP 3 40 ps = q := ⟨_, rfl⟩
  rw [hqs] at HF hq hlen hq6
  have HQ := Lib.hid hq
  have HQ6 := Lib.hid hq6
  obtain ⟨g, hG⟩ : ∃ n, qs.length = n := ⟨_, rfl⟩
  rw [hG] at HF hlen
  have HG := Lib.hid hG
  obtain ⟨pn, hPN⟩ : ∃ n, ps.length = n := ⟨_, rfl⟩
  rw [hPN] at HF ⊢
  obtain ⟨KT, hKT⟩ := rsum_ex
  have HKT := Lib.hid hKT
  have HMK := Lib.hid hKT.make
  clear hr hp hpc hpn hq hq6 hqs hPN hKT hG hN hkl hkb hKN
  go_enter Try.func4, Try.ntmps4
  go_wp2_with fail
  refine HBK.out.mono ?_
  rintro e w1 ⟨gb, gK, A1, c1, A2, c2, rfl, mq⟩
  have Mq := Lib.hid mq
  clear mq HBK
  go_wp2_with fail
  refine (HF.out _ Mq.out.bel).mono ?_
  rintro e w2 ⟨A3, c3, rfl, mq⟩
  have Mq := Lib.hid (Mq.out.join mq)
  obtain ⟨OW, hOW⟩ : ∃ b : List Ro, [⟨24, 1, .slice A3 g c3, g, qs.map Pt.v⟩, ⟨5, 1, .slice A2 KN c2, KN, by8 kb⟩, ⟨5, 1, .slice A1 KN c1, KN, by8 kb⟩] = b := ⟨_, rfl⟩
  have Mq := Lib.hid (show Mst W w2 ((gb, 117, bkc 0 0 gK) :: [(gK, 128, #[.slice A2 KN c2])]) OW from by rw [← hOW]; exact Mq.out)
  have S1 := Lib.hid (show SPts W [] OW A3 qs from ⟨by rw [HG.out]; exact (Mq.out.sub (List.nil_sublist _) (List.Sublist.refl _)).rowSrc (e := 24) (c := c3) (by rw [← hOW]; simp), fun p h => Src.old (HQ.out p h)⟩)
  have S0 := Lib.hid (show Src W [] OW 1 A1 KN (by8 kb) from (Mq.out.sub (List.nil_sublist _) (List.Sublist.refl _)).rowSrc (e := 5) (c := c1) (by rw [← hOW]; simp))
  have SK := Lib.hid (show Src W [] OW 1 A2 KN (by8 kb) from (Mq.out.sub (List.nil_sublist _) (List.Sublist.refl _)).rowSrc (e := 5) (c := c2) (by rw [← hOW]; simp))
  have HOW := Lib.hid hOW
  clear mq HF hOW
  have HKW := Lib.hid (show ∀ w' x y, Mst W w' ((gb, 117, bkc x y gK) :: [(gK, 128, #[.slice A2 KN c2])]) OW → KeyW w' gK kb from fun w' x y h =>
    h.key (List.mem_cons_of_mem _ (List.mem_singleton_self _)) HKN.out (SK.out.sub (fun _ h => absurd h List.not_mem_nil) (fun _ h => h)))
  have HPT := Lib.hid (show ∀ w' x y, Mst W w' ((gb, 117, bkc x y gK) :: [(gK, 128, #[.slice A2 KN c2])]) OW → Pts w' A3 qs from fun w' x y h => h.pts (S1.out.sub (fun _ h => absurd h List.not_mem_nil) (fun _ h => h)))
  have HRR := Lib.hid (fun w => refright_any a t w)
  go_wp2_with fail
  have HBN := Lib.hid (fun w v => bake_no w gb a t v hokf)
  have HCH := Lib.hid (fun w v v' => ckcheck2_no w gb v v' a t hokf)
  rw [hokf] at HRR
  clear hokf
  refine (HBN.out _ _).mono ?_
  rintro e w3 ⟨rfl, hb⟩
  have Mq := Lib.hid ((Mq.out.below hb).new 51 Y16)
  clear hb
  go_wp2_with fail
  refine (HRR.out _).mono ?_
  rintro e w5 ⟨rfl, rfl⟩
  go_wp2_with fail
  refine (known10 _).mono ?_
  rintro e w6 ⟨rfl, hb⟩
  have Mq := Lib.hid (Mq.out.below hb)
  clear hb
  have HR := Lib.hid ((Mq.out.blk []).range (o := 0) (xs := Y16.toList) (fun j v h => by simpa using h))
  clear HBN HKW HPT HKN HQ6 HQ HG HKT HMK S1 S0 SK HOW
  obtain ⟨Y, hY⟩ : ∃ Y : Array Value, Y16 = Y := ⟨_, rfl⟩
  have HBD := Lib.hid (show ∀ w, (Instr.build 51 #[]).run Try.prog w = .ok (.agg Y) w from fun w => by rw [← hY]; exact run_build w _ #[] _ (by kernel_rfl))
  have HEQ := Lib.hid (show ∀ w, (binOp .eql 51 (.agg Y) (.agg Y)).run Try.prog w = .ok (.bool true) w from fun w => by
    rw [← hY]
    exact (run_eql_ints w .u8 51 5 16 Try.underlying51 Try.underlying5 (size_of (by kernel_rfl)) (List.replicate 16 0) (List.replicate 16 0) rfl rfl).trans (by simp))
  have HI := Lib.hid (show (Try.prog.info? 51).map (·.size) = some Y.size by rw [← hY]; exact info_arr16)
  have HR := Lib.hid (show w6.rangeAt w3.heap.size 0 Y.toList by rw [← hY]; exact HR.out)
  clear hY
  go_wp2_with (first | refine wpList_loadG rfl _ _ rfl w3.heap.size 0 rfl Y _ HR.out Try.underlying51 rfl HI.out ?_ | refine wpList_buildG rfl _ rfl _ (HBD.out _) ?_ | refine wpList_binG rfl .eql _ _ _ _ rfl Y Y rfl rfl (by kernel_rfl) _ (HEQ.out _) ?_)
  refine (HCH.out _ _ _).mono ?_
  rintro e w7 ⟨rfl, rfl⟩
  go_wp2
  go_ret
  exact ⟨rfl, Mq.out.bel⟩
end Go.Proofs.Ytiakgohipnbdbaa
