/-
  vigillaw14.PacketKinds returns true, whatever it is called with, where the table strings.asciiSpace holds what the program's text lays there. Conditions: none but that the slice can be read.
-/
import Derived.Test.YtnbemfceoianiaaDoorPq2
import Derived.Test.YtnbemfceoianiaaDoorPw1
import Derived.Test.YtnbemfceoianiaaDoorPkB
namespace Go.Proofs.YtnbemfceoianiaaDoor
set_option linter.unusedVariables false
set_option linter.unusedSimpArgs false
open Go.RowKit

abbrev ws15 : Array Value := #[.string ⟨#[]⟩, .string ⟨#[104, 101, 108, 108, 111]⟩, .string ⟨#[99, 111, 111, 107, 105, 101]⟩, .string ⟨#[106, 111, 105, 110]⟩, .string ⟨#[97, 100, 109, 105, 116]⟩, .string ⟨#[119, 97, 110, 116]⟩, .string ⟨#[103, 114, 97, 110, 116]⟩, .string ⟨#[112, 105, 110, 103]⟩, .string ⟨#[97, 99, 107]⟩, .string ⟨#[114, 101, 113, 117, 101, 115, 116]⟩, .string ⟨#[115, 121, 110, 99]⟩, .string ⟨#[100, 101, 108, 116, 97]⟩, .string ⟨#[97, 116, 116, 101, 115, 116]⟩, .string ⟨#[109, 101, 116, 97]⟩, .string ⟨#[108, 101, 97, 118, 101]⟩]
theorem ws15_at {k : Nat} (h : k < 14) : ws15[k + 1]? = some (.string (wK k)) := by
  have h : k = 0 ∨ k = 1 ∨ k = 2 ∨ k = 3 ∨ k = 4 ∨ k = 5 ∨ k = 6 ∨ k = 7 ∨ k = 8 ∨ k = 9 ∨ k = 10 ∨ k = 11 ∨ k = 12 ∨ k = 13 := by omega
  rcases h with rfl | rfl | rfl | rfl | rfl | rfl | rfl | rfl | rfl | rfl | rfl | rfl | rfl | rfl <;> rfl
theorem size_int14 (w : World) : (sizeOf 3).run Tryd.prog w = .ok 1 w := size_of (by kernel_rfl) w
theorem eqlC {C : List Int} (h : C.length = 15) (w : World) : (Op.equalIn 10000 25 (.agg (ik C)) (.agg (ik C))).run Tryd.prog w = .ok true w := by
  have := run_equalIn_ints (P := Tryd.prog) w 9998 .i64 25 3 15 Tryd.underlying25 Tryd.underlying3 size_int14 C C h h
  rw [show (C == C) = true by simp] at this
  exact this
section
variable {P : Program} {w : World} {ops : Array Oper} {rest : List Oper} {o : Oper} {a : Act} {Q : Exit → Act → World → Prop}
/-- A slice literal of one packet. -/
theorem wpList_lit (hw : Region.wanted o (yielded ops a.tmps) = true) (y : Operand) (ho : o.op = .buildSlice 24 1 #[(0, y)]) {p : Pk} (hy : a.eval y = .agg (pkc p)) (hT : p.T.length = 32)
    (h : wpList Tryd.prog ops Q rest (a.put o.dst (.slice (some ⟨w.heap.size, 0, none⟩) 1 1)) (w.alloc (.cells (pkc p) 33))) : wpList Tryd.prog ops Q (o :: rest) a w :=
  BigFrame.wpList_want hw fun K hK => by
    unfold Oper.wp execOp
    simp only [ho, List.map_toArray, List.map_cons, List.map_nil, hy, Sem.run_bind, run_lit hT w, Result.andThen_ok, Sem.run_pure]
    exact hK _ _ h
end
theorem Rd.pkAt' {w : World} {B n b o : Nat} {l : List Pk} (h : Rd w B 41 (some ⟨b, o, none⟩) n (pks l)) (hn : l.length = n) (hT : T32 l) {k : Nat} {p : Pk} (hk : l[k]? = some p) : w.rangeAt b (o + k * 41) (pkc p).toList := by
  obtain ⟨b', o', e, _, h1⟩ := h.pkAt hn hT hk
  obtain ⟨rfl, rfl⟩ : b = b' ∧ o = o' := by simpa using e
  exact h1
theorem pk_one (p : Pk) : ∀ u ∈ (pkc p).toList, u.oneCell' = true := by
  intro u hu
  have h := pkc_one p
  rw [Array.all_eq_true_iff_forall_mem] at h
  exact h u (by simpa using hu)
/-- What the law's loop has after j rounds. -/
def KdL (W : World) (g : Nat) (qs : List Pk) (j : Nat) (v : Value) (w : World) : Prop :=
  ∃ xs : List Pk, xs.length = j ∧ T32 xs ∧ xs.map Pk.k = (qs.take j).map Pk.k ∧ Mst W w [(g, 25, ik (cnt ((qs.take j).map Pk.k)))] [⟨33, 41, v, j, pks xs⟩]
theorem KdL.next {W w : World} {g j N3 : Nat} {qs xs : List Pk} {q X : Pk} {v : Value} {X3 : List Value} (hq : qs[j]? = some q) (h1 : xs.length = j) (h2 : T32 xs) (h3 : xs.map Pk.k = (qs.take j).map Pk.k) (hN : N3 = j + 1) (hX : X3 = pks xs ++ (pkc X).toList) (hXT : X.T.length = 32) (hXk : X.k = q.k)
    (m : Mst W w [(g, 25, ik (cnt ((qs.take j).map Pk.k ++ [q.k])))] [⟨33, 41, v, N3, X3⟩]) : KdL W g qs (j + 1) v w := by
  subst hN hX
  refine ⟨xs ++ [X], by simp [h1], fun p hp => ?_, ?_, ?_⟩
  · rcases List.mem_append.1 hp with hp | hp
    · exact h2 p hp
    · obtain rfl : p = X := by simpa using hp
      exact hXT
  · rw [List.map_append, h3, take_map hq, List.map_cons, List.map_nil, hXk]
  · rw [take_map hq, pks_snoc]
    exact m
set_option maxRecDepth 100000 in
set_option maxHeartbeats 16000000 in
theorem packetKinds_main (W : World) (kind : Int) (qs : List Pk) (A : Option Addr) (c : Nat) (hqs : Rd W W.heap.size 41 A qs.length (pks qs)) (hb : ∀ p ∈ qs, p.T.length = 32 ∧ RB W W.heap.size p.A p.l ∧ p.l.length ≤ p.cp ∧ p.cp ≤ 9223372036854775807)
    (hn : qs.length ≤ 9223372036854775807) (hT : ∀ w, Below W.heap.size W w → TabA w) :
    Calls Tryd.prog 3 #[.int .i64 kind, .slice A qs.length c] W fun e W' => e = .returned (.bool true) ∧ Below W.heap.size W W' := by
  obtain ⟨s, hw, hcase⟩ : ∃ s : ByteArray, (∀ w, Below W.heap.size W w → Calls Tryd.prog 6 #[.int .i64 kind] w fun r w' => r = .returned (.string s) ∧ Below w.heap.size w w') ∧
      ((0 < kind ∧ kind < 15 ∧ ws15[kind.toNat]? = some (.string s)) ∨ (s = ⟨#[]⟩ ∧ (kind ≤ 0 ∨ (0 < kind ∧ 15 ≤ kind)))) := by
    by_cases h : 0 < kind ∧ kind < 15
    · refine ⟨wK (kind - 1).toNat, fun w hb => ?_, .inl ⟨by omega, by omega, by rw [show kind.toNat = (kind - 1).toNat + 1 by omega]; exact ws15_at (by omega)⟩⟩
      have := word14_yes (kind - 1).toNat (by omega) w (hT w hb) _ rfl
      rw [show ((kind - 1).toNat : Int) + 1 = kind by omega] at this
      exact this
    · exact ⟨⟨#[]⟩, fun w hb => word14_no kind h w, .inr ⟨rfl, by omega⟩⟩
  have HW := Lib.hid hw
  have HPL := Lib.hid (fun w => plain_any kind w)
  have HSD := Lib.hid (fun w => seeds14_any kind w)
  have HKN := Lib.hid (fun w => known14_any w)
  have HQT := Lib.hid (show T32 qs from fun p hp => (hb p hp).1)
  have HQB := Lib.hid hb
  have HQS := Lib.hid hqs
  obtain ⟨n, hqn⟩ : ∃ n, qs.length = n := ⟨_, rfl⟩
  obtain ⟨N, hN⟩ : ∃ N, N = min n 20 := ⟨_, rfl⟩
  rw [hqn] at hn HQS ⊢
  have HQN := Lib.hid hqn
  have hN1 : N ≤ 20 := by omega
  have hN2 : N ≤ n := by omega
  have HNN := Lib.hid (show N = n ∨ (N = 20 ∧ 20 < n) by omega)
  have m1 := ((Mst.start W).new 23 ws15).new 25 z15
  rw [show (W.alloc (.cells ws15 23)).heap.size = W.heap.size + 1 by simp] at m1
  have M1 := Lib.hid (show KdL W (W.heap.size + 1) qs 0 (.slice none 0 0) ((W.alloc (.cells ws15 23)).alloc (.cells z15 25)) from
    ⟨[], rfl, fun p hp => by simp at hp, by simp, (m1.sub (bl' := [(W.heap.size + 1, 25, z15)]) (List.Sublist.cons_cons _ (List.nil_sublist _)) (List.Sublist.refl _)).nilrow _ _⟩)
  have cW := fun k : Nat => (Bk.mk_ W 23 ws15).cell k
  obtain ⟨inB, hinB⟩ : ∃ b, decide (0 < kind ∧ kind < 15) = b := ⟨_, rfl⟩
  obtain ⟨sd, hsd⟩ : ∃ b, sdB kind = b := ⟨_, rfl⟩
  rw [hsd] at HSD
  have HSDB := Lib.hid hsd
  have HINB := Lib.hid hinB
  have HCASE := Lib.hid hcase
  have HCW := Lib.hid cW
  have hss : (s.toList == s.toList) = true := by simp
  have hss2 : (s == s) = true := by
    show (s.data == s.data) = true
    simp
  clear m1 hw hb hqs hqn hN hT hcase hsd hinB cW
  go_enter Tryd.func3, Tryd.ntmps3
  go_upto_region 2 with fail
  obtain ⟨w0, hw0⟩ : ∃ w, W.alloc (.cells ws15 23) = w := ⟨_, rfl⟩
  have hw9 : W.heap.size + 1 = w0.heap.size := by rw [← hw0]; simp
  rw [hw0] at HCW M1
  rw [hw9] at M1
  rw [show W.alloc (.cells _ 23) = w0 from hw0]
  clear hw0 hw9
  go_cut [6] (fun s6 wx => s6 = .bool inB ∧ w0 = wx)
  case first =>
    rcases HCASE.out with ⟨p1, p2, -⟩ | ⟨-, p1 | ⟨p1, p2⟩⟩
    · have HI := Lib.hid (show inB = true by rw [← HINB.out]; exact decide_eq_true ⟨p1, p2⟩)
      go_wp2_with fail
      go_meet
      exact ⟨by rw [HI.out], rfl⟩
    · have HI := Lib.hid (show inB = false by rw [← HINB.out]; exact decide_eq_false (by omega))
      go_wp2_with fail
      go_meet
      exact ⟨by rw [HI.out], rfl⟩
    · have HI := Lib.hid (show inB = false by rw [← HINB.out]; exact decide_eq_false (by omega))
      go_wp2_with fail
      go_meet
      exact ⟨by rw [HI.out, decide_eq_false (show ¬ kind < 15 by omega)], rfl⟩
  case rest =>
    obtain ⟨rfl, rfl⟩ := hcut
    go_upto_if 19 with fail
    go_cut [7] (fun s7 wx => s7 = .string s ∧ w0 = wx)
    case first =>
      rcases HCASE.out with ⟨p1, p2, hs⟩ | ⟨hs, hp⟩
      · obtain rfl : inB = true := by rw [← HINB.out]; exact decide_eq_true ⟨p1, p2⟩
        have cK : w0.cell? ⟨W.heap.size, kind.toNat, none⟩ = some (.string s) := (HCW.out _).trans hs
        clear hs
        go_wp2_with fail
        go_meet
        exact ⟨rfl, rfl⟩
      · obtain rfl : inB = false := by rw [← HINB.out]; exact decide_eq_false (by omega)
        have HS := Lib.hid hs
        clear hs hp
        go_wp2_with fail
        go_meet
        exact ⟨by rw [HS.out], rfl⟩
    case rest =>
      obtain ⟨rfl, rfl⟩ := hcut
      go_upto_block 0 with fail
      obtain ⟨g9, hg9⟩ : ∃ g, w0.heap.size = g := ⟨_, rfl⟩
      rw [hg9] at M1
      simp only [hg9]
      clear hg9
      go_cut [8, 10] (fun s8 s10 wx => KdL W g9 qs N s8 wx)
      case first =>
        go_wp2_with fail
        go_loopg [8, 10] N (fun gg s8 s10 wr => ∃ k : Nat, k + gg = N ∧ s10 = .int .i64 k ∧ KdL W g9 qs k s8 wr)
        case atStart => exact ⟨0, by omega, rfl, M1.out⟩
        case round =>
          obtain ⟨k, hk, rfl, xs, hx1, hx2, hx3, m⟩ := hrel
          by_cases hlt : k < N
          · obtain ⟨q, hq⟩ : ∃ q, qs[k]? = some q := ⟨_, List.getElem?_eq_getElem (by rw [HQN.out]; omega)⟩
            have hqb := HQB.out q (List.mem_of_getElem? hq)
            have HTq := Lib.hid hqb.1
            obtain ⟨b, o, rfl, hbb, hr⟩ := (m.oldRd HQS.out).pkAt HQN.out HQT.out hq
            have HR := Lib.hid hr
            have HSRC := Lib.hid (show ∀ w' bl ow, Mst W w' bl ow → w'.rangeAt b (o + k * 41) (pkc q).toList from fun w' bl ow h => (h.oldRd HQS.out).pkAt' HQN.out HQT.out hq)
            obtain ⟨Nb, hNb⟩ : ∃ N, (q.l.take 520).length = N := ⟨_, rfl⟩
            have HTO := Lib.hid (show ∀ w' bl ow, Mst W w' bl ow → _ from fun w' bl ow h => to14_any W w' bl ow h q hqb.1 (Src.old hqb.2.1) hqb.2.2.1 hqb.2.2.2 Nb hNb)
            obtain ⟨l, hl⟩ : ∃ l, (qs.take k).map Pk.k = l := ⟨_, rfl⟩
            have hll : l.length ≤ 20 := by rw [← hl, List.length_map, List.length_take]; omega
            rw [hl] at m
            obtain ⟨C, x, hC, hx, hC15, hx0, hxN, hCs⟩ := cnt_at l q.k 20 hll
            rw [hC] at m
            have HCS := Lib.hid hCs
            have HCX := Lib.hid hx
            have HC15 := Lib.hid hC15
            have HIX := Lib.hid (show kix q.k < 15 from kix_lt _)
            have HL := Lib.hid hl
            have Mq := Lib.hid m
            have HQ := Lib.hid hq
            have HX1 := Lib.hid hx1
            have HX2 := Lib.hid hx2
            have HX3 := Lib.hid hx3
            have i1 : (k : Int) < n := by omega
            have i2 : (0 : Int) ≤ k := by omega
            have i3 : (k : Int) < 20 := by omega
            have HLT := Lib.hid hlt
            have HK := Lib.hid hk
            have HN2 := Lib.hid hN2
            clear m hr hq hbb hqb hNb hl hll hC hC15 hCs hx hx1 hx2 hx3 hlt hk hN1 hN2
            go_wp2_with (first | refine wpList_loadG (by first | rfl | kernel_rfl) _ _ rfl b (o + k * 41) rfl (pkc q) _ HR.out Tryd.underlying38 rfl (info_rpk HTq.out) ?_)
            with_reducible refine (HTO.out _ _ _ Mq.out).mono ?_
            rintro r w1 ⟨Ab, cb, rfl, hm⟩
            obtain ⟨X, hX⟩ : ∃ X : Pk, { q with A := Ab, l := q.l.take 520, cp := cb } = X := ⟨_, rfl⟩
            rw [hX]
            have HTX := Lib.hid (show X.T.length = 32 from by rw [← hX]; exact HTq.out)
            have HXk := Lib.hid (show X.k = q.k from by rw [← hX])
            have Mq := Lib.hid (hm.sub (List.Sublist.refl _) (List.sublist_cons_self _ _))
            have HXs := Lib.hid (show (pkc X).size = 1 * 41 by rw [pkc_size HTX.out])
            have HX1' := Lib.hid (pk_one X)
            clear hm hX HTO HR
            go_upto_region 12 with (first | refine wpList_lit (by first | rfl | kernel_rfl) _ rfl rfl HTX.out ?_ | (at_builtin; refine wpList_appE rfl _ _ 24 rfl [] (Mq.out.alloc _) el_pk rfl _ _ 1 1 _ rfl (Rd.new1 _ (pkc X) _ HXs.out) HX1'.out (by unfold maxLen; omega) (by omega) ?_; intro A3 c3 w6 N3 X3 hn5 hx5 mq; have Mq := Lib.hid mq; have HN3 := Lib.hid hn5; have HX3' := Lib.hid hx5; clear mq hn5 hx5))
            have hc0 : w6.cell? ⟨b, o + k * 41, none⟩ = some (.int .i64 q.k) := HSRC.out _ _ _ Mq.out 0 _ (pkc_k q)
            by_cases hin : 0 < q.k ∧ q.k < 15
            · obtain ⟨t, ht⟩ : ∃ t : Nat, q.k = t := ⟨q.k.toNat, by omega⟩
              have HIN := Lib.hid hin
              have HTT := Lib.hid ht
              rw [kix_in hin, show q.k.toNat = t by omega] at HCS HCX HIX
              rw [ht] at hc0
              have j1 : (0 : Int) < t := by omega
              have j2 : (t : Int) < 15 := by omega
              have hc1 : w6.cell? ⟨g9, t, none⟩ = some (.int .i64 x) := by
                rw [(Mq.out.blk []).cell, ik_get HC15.out HIX.out, HCX.out]
              have hf1 := (Mq.out.blk []).fr t
              clear hin ht
              go_upto_region 10 with fail
              generalize hw6 : World.setCell _ _ _ = w7
              have mq := (Mq.out.put [] t (.int .i64 (x + 1))).toVP hw6 rfl
              rw [ik_set, ← HCS.out] at mq
              have Mq := Lib.hid mq
              clear hw6 mq hc0 hc1 hf1
              go_wp2_with fail
              have hk := HK.out
              have hlt := HLT.out
              go_roundg (N - (k + 1))
              case measure => exact meas hk hlt
              case rel => exact ⟨k + 1, meas2 hlt, by go_num, KdL.next HQ.out HX1.out HX2.out HX3.out HN3.out HX3'.out HTX.out HXk.out (by rw [HL.out]; exact Mq.out)⟩
            · rw [kix_out hin] at HCS HCX HIX
              have hin2 : q.k ≤ 0 ∨ (0 < q.k ∧ 15 ≤ q.k) := by omega
              have hc1 : w6.cell? ⟨g9, 0, none⟩ = some (.int .i64 x) := by
                rw [(Mq.out.blk []).cell, ik_get HC15.out HIX.out, HCX.out]
              have hf1 := (Mq.out.blk []).fr 0
              clear hin
              rcases hin2 with j1 | ⟨j1, j2⟩
              all_goals (
                go_upto_region 10 with fail
                generalize hw6 : World.setCell _ _ _ = w7
                have mq := (Mq.out.put [] 0 (.int .i64 (x + 1))).toVP hw6 rfl
                rw [ik_set, ← HCS.out] at mq
                have Mq := Lib.hid mq
                clear hw6 mq hc0 hc1 hf1
                go_wp2_with fail
                have hk := HK.out
                have hlt := HLT.out
                go_roundg (N - (k + 1))
                case measure => exact meas hk hlt
                case rel => exact ⟨k + 1, meas2 hlt, by go_num, KdL.next HQ.out HX1.out HX2.out HX3.out HN3.out HX3'.out HTX.out HXk.out (by rw [HL.out]; exact Mq.out)⟩)
          · obtain rfl : k = N := by omega
            have M2 := Lib.hid (show KdL W g9 qs k u8 wr from ⟨xs, hx1, hx2, hx3, m⟩)
            have hNN := HNN.out
            have i4 : (¬ ((k : Int) < n)) ∨ ((k : Int) < n ∧ ¬ ((k : Int) < 20)) := by omega
            have HH := Lib.hid hk
            clear m hx1 hx2 hx3 hNN hN1 hN2 hk hlt
            rcases i4 with i4 | ⟨i4, i5⟩
            all_goals (
              go_wp2_with fail
              go_meet
              exact M2.out)
      case rest =>
        obtain ⟨xs, hx1, hx2, hx3, m⟩ := hcut
        go_upto_region 15 with fail
        obtain ⟨Ax, cx, rfl, -, -, -, -⟩ := own_form (m.row [])
        have HKI := Lib.hid (show ∀ w' bl ow, Mst W w' bl ow → (⟨33, 41, .slice Ax N cx, N, pks xs⟩ : Ro) ∈ ow → Calls Tryd.prog 9 #[.slice Ax N cx] w' fun e w2 => e = .returned (.agg (ik (cnt ((qs.take N).map Pk.k)))) ∧ Below w'.heap.size w' w2 from fun w' bl ow h hm => by
          have q := kinds14_any w' xs hx2 Ax cx N hx1 (h.src (h.rowSrc hm)) (by omega)
          rw [hx3] at q
          exact q)
        have h15 := (cnt_ok ((qs.take N).map Pk.k)).1
        obtain ⟨C, hC⟩ : ∃ C, cnt ((qs.take N).map Pk.k) = C := ⟨_, rfl⟩
        rw [hC] at m h15 HKI
        have H15 := Lib.hid h15
        have heq := fun w => eqlC h15 w
        have Mq := Lib.hid m
        have HOD := Lib.hid (show ∀ w' bl' ow', Mst W w' bl' ow' → (g9, 25, ik C) ∈ bl' → w'.rangeAt g9 0 (ik C).toList from fun w' bl' ow' h h1 => (h.bk _ h1).1.rangeW)
        have K0 := Lib.hid (HOD.out _ _ _ Mq.out.drew (by simp))
        clear m hx1 hx2 hx3 h15 hC
        go_cut [11] (fun s11 wx => s11 = .bool sd ∧ wc = wx)
        case first =>
          rcases HCASE.out with ⟨p1, p2, -⟩ | ⟨-, hp⟩
          · obtain rfl : inB = true := by rw [← HINB.out]; exact decide_eq_true ⟨p1, p2⟩
            have hkk : kind < 7 ∨ kind = 11 ∨ kind = 12 ∨ kind = 14 ∨ (7 ≤ kind ∧ kind ≠ 11 ∧ kind ≠ 12 ∧ kind ≠ 14) := by omega
            rcases hkk with h7 | h7 | h7 | h7 | h7
            · have HI := Lib.hid (show sd = true by rw [← HSDB.out]; unfold sdB; rw [decide_eq_true (show 0 < kind ∧ kind < 15 by omega)]; rw [decide_eq_true (show kind ≤ 6 by omega)]; rfl)
              have e11 : (kind == 11) = false := by simp; omega
              have e12 : (kind == 12) = false := by simp; omega
              have e14 : (kind == 14) = false := by simp; omega
              have e7 : decide (kind < 7) = true := by simp; omega
              clear h7 p1 p2
              go_wp2_with fail
              go_meet
              exact ⟨by rw [HI.out], rfl⟩
            · have HI := Lib.hid (show sd = true by rw [← HSDB.out]; rw [h7]; rfl)
              have e11 : (kind == 11) = true := by simp; omega
              have e12 : (kind == 12) = false := by simp; omega
              have e14 : (kind == 14) = false := by simp; omega
              have e7 : decide (kind < 7) = false := by simp; omega
              clear h7 p1 p2
              go_wp2_with fail
              go_meet
              exact ⟨by rw [HI.out], rfl⟩
            · have HI := Lib.hid (show sd = true by rw [← HSDB.out]; rw [h7]; rfl)
              have e11 : (kind == 11) = false := by simp; omega
              have e12 : (kind == 12) = true := by simp; omega
              have e14 : (kind == 14) = false := by simp; omega
              have e7 : decide (kind < 7) = false := by simp; omega
              clear h7 p1 p2
              go_wp2_with fail
              go_meet
              exact ⟨by rw [HI.out], rfl⟩
            · have HI := Lib.hid (show sd = true by rw [← HSDB.out]; rw [h7]; rfl)
              have e11 : (kind == 11) = false := by simp; omega
              have e12 : (kind == 12) = false := by simp; omega
              have e14 : (kind == 14) = true := by simp; omega
              have e7 : decide (kind < 7) = false := by simp; omega
              clear h7 p1 p2
              go_wp2_with fail
              go_meet
              exact ⟨by rw [HI.out], rfl⟩
            · have HI := Lib.hid (show sd = false by rw [← HSDB.out]; unfold sdB; rw [decide_eq_true (show 0 < kind ∧ kind < 15 by omega)]; rw [decide_eq_false (show ¬ kind ≤ 6 by omega), show (kind == 11) = false by simp; omega, show (kind == 12) = false by simp; omega, show (kind == 14) = false by simp; omega]; rfl)
              have e11 : (kind == 11) = false := by simp; omega
              have e12 : (kind == 12) = false := by simp; omega
              have e14 : (kind == 14) = false := by simp; omega
              have e7 : decide (kind < 7) = false := by simp; omega
              clear h7 p1 p2
              go_wp2_with fail
              go_meet
              exact ⟨by rw [HI.out], rfl⟩
          · obtain rfl : inB = false := by rw [← HINB.out]; exact decide_eq_false (by omega)
            have HI := Lib.hid (show sd = false by rw [← HSDB.out]; unfold sdB; rw [decide_eq_false (by omega)]; rfl)
            clear hp
            go_wp2_with fail
            go_meet
            exact ⟨by rw [HI.out], rfl⟩
        case rest =>
          obtain ⟨rfl, rfl⟩ := hcut
          go_upto_region 16 with fail
          have hnn : ∀ w, (binOp .eql 4 (.bool sd) (.bool sd)).run Tryd.prog w = .ok (.bool true) w := fun w => by cases sd <;> rfl
          have hkk : kind = 1 ∨ kind = 2 ∨ (kind ≠ 1 ∧ kind ≠ 2) := by omega
          rcases hkk with rfl | rfl | ⟨q1, q2⟩
          · have hpl : decide ((1 : Int) = 1 ∨ (1 : Int) = 2) = true := rfl
            rw [hpl] at HPL
            clear hpl
            refine wp_region_held_drew (S := fun w' => w'.rangeAt g9 0 (ik C).toList) (by kernel_rfl) ?_ (fun hHeld => ?_)
            · exact K0.out
            generalize hw7 : World.drew _ = w7 at hHeld ⊢; have Mq := Lib.hid (Mq.out.drew.toVP hw7 rfl); clear hw7
            refine wpAnyH_ready (rs := [0]) (by kernel_rfl) (by simp) ?_
            refine (AllReadyH.cons rfl (fun K hK => ?_) AllReadyH.nil)
            go_simp
            (with_reducible refine (HKN.out _).mono ?_); rintro r wq ⟨rfl, hb⟩; have Mq := Lib.hid (Mq.out.below hb); clear hb
            go_wp2_with fail
            refine hK.out _ _ (by exact HOD.out _ _ _ Mq.out (by simp)) (fun hHeld => ?_)
            clear hK K
            refine wpAnyH_take (i := 1) (v := ?_) rfl (by kernel_rfl) (by kernel_rfl) (by kernel_rfl) (fun _ _ _ h => h) (Or.inl ⟨by rfl, ?_⟩) (by assumption) ?_
            rotate_left
            · intro w hSw; (try dsimp only at hSw); go_split_ands; go_simp; with_reducible rfl
            change wpAnyH _ _ _ _ _ _ _ (Act.put _ (some 86) _) _
            simp only [Act.put, List.setIfInBounds_toArray, List.set_cons_zero, List.set_cons_succ, Array.toArray_toList]
            refine wpAnyH_take (i := 2) (v := ?_) rfl (by kernel_rfl) (by kernel_rfl) (by kernel_rfl) (fun _ _ _ h => h) (Or.inl ⟨by rfl, ?_⟩) (by assumption) ?_
            rotate_left
            · intro w hSw; (try dsimp only at hSw); go_split_ands; go_simp; with_reducible rfl
            change wpAnyH _ _ _ _ _ _ _ (Act.put _ (some 87) _) _
            simp only [Act.put, List.setIfInBounds_toArray, List.set_cons_zero, List.set_cons_succ, Array.toArray_toList]
            refine wpAnyH_take (i := 4) (v := ?_) rfl (by kernel_rfl) (by kernel_rfl) (by kernel_rfl) (fun _ _ _ h => h) (Or.inl ⟨by rfl, ?_⟩) (by assumption) ?_
            rotate_left
            · intro w hSw; (try dsimp only at hSw); go_split_ands; go_simp; with_reducible rfl
            change wpAnyH _ _ _ _ _ _ _ (Act.put _ (some 89) _) _
            simp only [Act.put, List.setIfInBounds_toArray, List.set_cons_zero, List.set_cons_succ, Array.toArray_toList]
            refine wpAnyH_ready (rs := [3]) (by kernel_rfl) (by simp) ?_
            refine (AllReadyH.cons rfl (fun K hK => ?_) AllReadyH.nil)
            go_simp
            (with_reducible refine (HW.out _ Mq.out.bel).mono ?_); rintro r wq ⟨rfl, hb⟩; have Mq := Lib.hid (Mq.out.below hb); clear hb
            go_wp2_with fail
            refine hK.out _ _ (by exact HOD.out _ _ _ Mq.out (by simp)) (fun hHeld => ?_)
            clear hK K
            refine wpAnyH_take (i := 5) (v := ?_) rfl (by kernel_rfl) (by kernel_rfl) (by kernel_rfl) (fun _ _ _ h => h) (Or.inl ⟨by rfl, ?_⟩) (by assumption) ?_
            rotate_left
            · intro w hSw; (try dsimp only at hSw); go_split_ands; go_simp; with_reducible rfl
            change wpAnyH _ _ _ _ _ _ _ (Act.put _ (some 90) _) _
            simp only [Act.put, List.setIfInBounds_toArray, List.set_cons_zero, List.set_cons_succ, Array.toArray_toList]
            refine wpAnyH_take (i := 6) (v := ?_) rfl (by kernel_rfl) (by kernel_rfl) (by kernel_rfl) (fun _ _ _ h => h) (Or.inl ⟨by rfl, ?_⟩) (by assumption) ?_
            rotate_left
            · intro w hSw; (try dsimp only at hSw); go_split_ands; go_simp; with_reducible rfl
            change wpAnyH _ _ _ _ _ _ _ (Act.put _ (some 91) _) _
            simp only [Act.put, List.setIfInBounds_toArray, List.set_cons_zero, List.set_cons_succ, Array.toArray_toList]
            refine wpAnyH_take (i := 7) (v := ?_) rfl (by kernel_rfl) (by kernel_rfl) (by kernel_rfl) (fun _ _ _ h => h) (Or.inl ⟨by rfl, ?_⟩) (by assumption) ?_
            rotate_left
            · intro w hSw; (try dsimp only at hSw); go_split_ands; go_simp; with_reducible rfl
            change wpAnyH _ _ _ _ _ _ _ (Act.put _ (some 92) _) _
            simp only [Act.put, List.setIfInBounds_toArray, List.set_cons_zero, List.set_cons_succ, Array.toArray_toList]
            refine wpAnyH_take (i := 8) (v := ?_) rfl (by kernel_rfl) (by kernel_rfl) (by kernel_rfl) (fun _ _ _ h => h) (Or.inl ⟨by rfl, ?_⟩) (by assumption) ?_
            rotate_left
            · intro w hSw; (try dsimp only at hSw); go_split_ands; go_simp; with_reducible rfl
            change wpAnyH _ _ _ _ _ _ _ (Act.put _ (some 93) _) _
            simp only [Act.put, List.setIfInBounds_toArray, List.set_cons_zero, List.set_cons_succ, Array.toArray_toList]
            refine wpAnyH_take (i := 10) (v := ?_) rfl (by kernel_rfl) (by kernel_rfl) (by kernel_rfl) (fun _ _ _ h => h) (Or.inl ⟨by rfl, ?_⟩) (by assumption) ?_
            rotate_left
            · intro w hSw; (try dsimp only at hSw); go_split_ands; go_simp; with_reducible rfl
            change wpAnyH _ _ _ _ _ _ _ (Act.put _ (some 95) _) _
            simp only [Act.put, List.setIfInBounds_toArray, List.set_cons_zero, List.set_cons_succ, Array.toArray_toList]
            refine wpAnyH_take (i := 11) (v := ?_) rfl (by kernel_rfl) (by kernel_rfl) (by kernel_rfl) (fun _ _ _ h => h) (Or.inl ⟨by rfl, ?_⟩) (by assumption) ?_
            rotate_left
            · intro w hSw; (try dsimp only at hSw); go_split_ands; go_simp; with_reducible rfl
            change wpAnyH _ _ _ _ _ _ _ (Act.put _ (some 96) _) _
            simp only [Act.put, List.setIfInBounds_toArray, List.set_cons_zero, List.set_cons_succ, Array.toArray_toList]
            refine wpAnyH_ready (rs := [9]) (by kernel_rfl) (by simp) ?_
            refine (AllReadyH.cons rfl (fun K hK => ?_) AllReadyH.nil)
            go_simp
            (with_reducible refine (HPL.out _).mono ?_); rintro r wq ⟨rfl, rfl⟩
            go_wp2_with fail
            refine hK.out _ _ (by exact HOD.out _ _ _ Mq.out (by simp)) (fun hHeld => ?_)
            clear hK K
            refine wpAnyH_take (i := 12) (v := ?_) rfl (by kernel_rfl) (by kernel_rfl) (by kernel_rfl) (fun _ _ _ h => h) (Or.inl ⟨by rfl, ?_⟩) (by assumption) ?_
            rotate_left
            · intro w hSw; (try dsimp only at hSw); go_split_ands; go_simp; with_reducible rfl
            change wpAnyH _ _ _ _ _ _ _ (Act.put _ (some 97) _) _
            simp only [Act.put, List.setIfInBounds_toArray, List.set_cons_zero, List.set_cons_succ, Array.toArray_toList]
            refine wpAnyH_take (i := 13) (v := undef) rfl (by kernel_rfl) (by kernel_rfl) (by kernel_rfl) (fun _ _ _ h => h) (Or.inr ⟨by rfl, rfl⟩) (by assumption) ?_
            change wpAnyH _ _ _ _ _ _ _ (Act.put _ (some 98) _) _
            simp only [Act.put, List.setIfInBounds_toArray, List.set_cons_zero, List.set_cons_succ, Array.toArray_toList]
            refine wpAnyH_take (i := 14) (v := undef) rfl (by kernel_rfl) (by kernel_rfl) (by kernel_rfl) (fun _ _ _ h => h) (Or.inr ⟨by rfl, rfl⟩) (by assumption) ?_
            change wpAnyH _ _ _ _ _ _ _ (Act.put _ (some 99) _) _
            simp only [Act.put, List.setIfInBounds_toArray, List.set_cons_zero, List.set_cons_succ, Array.toArray_toList]
            refine wpAnyH_take (i := 15) (v := ?_) rfl (by kernel_rfl) (by kernel_rfl) (by kernel_rfl) (fun _ _ _ h => h) (Or.inl ⟨by rfl, ?_⟩) (by assumption) ?_
            rotate_left
            · intro w hSw; (try dsimp only at hSw); go_split_ands; go_simp; with_reducible rfl
            change wpAnyH _ _ _ _ _ _ _ (Act.put _ (some 100) _) _
            simp only [Act.put, List.setIfInBounds_toArray, List.set_cons_zero, List.set_cons_succ, Array.toArray_toList]
            refine wpAnyH_take (i := 16) (v := ?_) rfl (by kernel_rfl) (by kernel_rfl) (by kernel_rfl) (fun _ _ _ h => h) (Or.inl ⟨by rfl, ?_⟩) (by assumption) ?_
            rotate_left
            · intro w hSw; (try dsimp only at hSw); go_split_ands; go_simp; with_reducible rfl
            change wpAnyH _ _ _ _ _ _ _ (Act.put _ (some 101) _) _
            simp only [Act.put, List.setIfInBounds_toArray, List.set_cons_zero, List.set_cons_succ, Array.toArray_toList]
            refine wpAnyH_take (i := 17) (v := ?_) rfl (by kernel_rfl) (by kernel_rfl) (by kernel_rfl) (fun _ _ _ h => h) (Or.inl ⟨by rfl, ?_⟩) (by assumption) ?_
            rotate_left
            · intro w hSw; (try dsimp only at hSw); go_split_ands; go_simp; with_reducible rfl
            change wpAnyH _ _ _ _ _ _ _ (Act.put _ (some 102) _) _
            simp only [Act.put, List.setIfInBounds_toArray, List.set_cons_zero, List.set_cons_succ, Array.toArray_toList]
            refine wpAnyH_take (i := 18) (v := ?_) rfl (by kernel_rfl) (by kernel_rfl) (by kernel_rfl) (fun _ _ _ h => h) (Or.inl ⟨by rfl, ?_⟩) (by assumption) ?_
            rotate_left
            · intro w hSw; (try dsimp only at hSw); go_split_ands; go_simp; with_reducible rfl
            change wpAnyH _ _ _ _ _ _ _ (Act.put _ (some 103) _) _
            simp only [Act.put, List.setIfInBounds_toArray, List.set_cons_zero, List.set_cons_succ, Array.toArray_toList]
            refine wpAnyH_take (i := 19) (v := ?_) rfl (by kernel_rfl) (by kernel_rfl) (by kernel_rfl) (fun _ _ _ h => h) (Or.inl ⟨by rfl, ?_⟩) (by assumption) ?_
            rotate_left
            · intro w hSw; (try dsimp only at hSw); go_split_ands; go_simp; with_reducible rfl
            change wpAnyH _ _ _ _ _ _ _ (Act.put _ (some 104) _) _
            simp only [Act.put, List.setIfInBounds_toArray, List.set_cons_zero, List.set_cons_succ, Array.toArray_toList]
            refine wpAnyH_take (i := 21) (v := ?_) rfl (by kernel_rfl) (by kernel_rfl) (by kernel_rfl) (fun _ _ _ h => h) (Or.inl ⟨by rfl, ?_⟩) (by assumption) ?_
            rotate_left
            · intro w hSw; (try dsimp only at hSw); go_split_ands; go_simp; with_reducible rfl
            change wpAnyH _ _ _ _ _ _ _ (Act.put _ (some 106) _) _
            simp only [Act.put, List.setIfInBounds_toArray, List.set_cons_zero, List.set_cons_succ, Array.toArray_toList]
            refine wpAnyH_ready (rs := [20]) (by kernel_rfl) (by simp) ?_
            refine (AllReadyH.cons rfl (fun K hK => ?_) AllReadyH.nil)
            go_simp
            (with_reducible refine (HSD.out _).mono ?_); rintro r wq ⟨rfl, rfl⟩
            go_wp2_with fail
            refine hK.out _ _ (by exact HOD.out _ _ _ Mq.out (by simp)) (fun hHeld => ?_)
            clear hK K
            refine wpAnyH_take (i := 22) (v := ?_) rfl (by kernel_rfl) (by kernel_rfl) (by kernel_rfl) (fun _ _ _ h => h) (Or.inl ⟨by rfl, ?_⟩) (by assumption) ?_
            rotate_left
            · intro w hSw; (try dsimp only at hSw); go_split_ands; go_simp; with_reducible rfl
            change wpAnyH _ _ _ _ _ _ _ (Act.put _ (some 107) _) _
            simp only [Act.put, List.setIfInBounds_toArray, List.set_cons_zero, List.set_cons_succ, Array.toArray_toList]
            refine wpAnyH_take (i := 23) (v := ?_) rfl (by kernel_rfl) (by kernel_rfl) (by kernel_rfl) (fun _ _ _ h => h) (Or.inl ⟨by rfl, ?_⟩) (by assumption) ?_
            rotate_left
            · intro w hSw; (try dsimp only at hSw); go_split_ands; go_simp; with_reducible rfl
            change wpAnyH _ _ _ _ _ _ _ (Act.put _ (some 108) _) _
            simp only [Act.put, List.setIfInBounds_toArray, List.set_cons_zero, List.set_cons_succ, Array.toArray_toList]
            refine wpAnyH_take (i := 24) (v := ?_) rfl (by kernel_rfl) (by kernel_rfl) (by kernel_rfl) (fun _ _ _ h => h) (Or.inl ⟨by rfl, ?_⟩) (by assumption) ?_
            rotate_left
            · intro w hSw; (try dsimp only at hSw); go_split_ands; go_simp; with_reducible rfl
            change wpAnyH _ _ _ _ _ _ _ (Act.put _ (some 109) _) _
            simp only [Act.put, List.setIfInBounds_toArray, List.set_cons_zero, List.set_cons_succ, Array.toArray_toList]
            refine wpAnyH_take (i := 25) (v := ?_) rfl (by kernel_rfl) (by kernel_rfl) (by kernel_rfl) (fun _ _ _ h => h) (Or.inl ⟨by rfl, ?_⟩) (by assumption) ?_
            rotate_left
            · intro w hSw; (try dsimp only at hSw); go_split_ands; go_simp; with_reducible rfl
            change wpAnyH _ _ _ _ _ _ _ (Act.put _ (some 110) _) _
            simp only [Act.put, List.setIfInBounds_toArray, List.set_cons_zero, List.set_cons_succ, Array.toArray_toList]
            refine wpAnyH_take (i := 27) rfl (by kernel_rfl) (by kernel_rfl) (by kernel_rfl) (fun _ _ _ h => h) (yieldsIf_load_mid (by rfl) _ _ rfl _ _ rfl _ _ (fun w hw => hw) Tryd.underlying25 rfl (by rw [Array.length_toList]; exact info_ik H15.out)) (by assumption) ?_
            change wpAnyH _ _ _ _ _ _ _ (Act.put _ (some 112) _) _
            simp only [Act.put, List.setIfInBounds_toArray, List.set_cons_zero, List.set_cons_succ, Array.toArray_toList]
            refine wpAnyH_ready (rs := [26]) (by kernel_rfl) (by simp) ?_
            refine (AllReadyH.cons rfl (fun K hK => ?_) AllReadyH.nil)
            go_simp
            (with_reducible refine (HKI.out _ _ _ Mq.out (by simp)).mono ?_); rintro r wq ⟨rfl, hb⟩; have Mq := Lib.hid (Mq.out.below hb); clear hb
            go_wp2_with fail
            refine hK.out _ _ (by exact HOD.out _ _ _ Mq.out (by simp)) (fun hHeld => ?_)
            clear hK K
            refine wpAnyH_take (i := 28) (v := ?_) rfl (by kernel_rfl) (by kernel_rfl) (by kernel_rfl) (fun _ _ _ h => h) (Or.inl ⟨by rfl, ?_⟩) (by assumption) ?_
            rotate_left
            · intro w hSw; (try dsimp only at hSw); go_split_ands; go_simp; with_reducible rfl
            change wpAnyH _ _ _ _ _ _ _ (Act.put _ (some 113) _) _
            simp only [Act.put, List.setIfInBounds_toArray, List.set_cons_zero, List.set_cons_succ, Array.toArray_toList]
            refine wpAnyH_take (i := 29) (v := ?_) rfl (by kernel_rfl) (by kernel_rfl) (by kernel_rfl) (fun _ _ _ h => h) (Or.inl ⟨by rfl, ?_⟩) (by assumption) ?_
            rotate_left
            · intro w hSw; (try dsimp only at hSw); go_split_ands; go_simp; with_reducible rfl
            change wpAnyH _ _ _ _ _ _ _ (Act.put _ (some 114) _) _
            simp only [Act.put, List.setIfInBounds_toArray, List.set_cons_zero, List.set_cons_succ, Array.toArray_toList]
            refine wpAnyH_take (i := 30) (v := ?_) rfl (by kernel_rfl) (by kernel_rfl) (by kernel_rfl) (fun _ _ _ h => h) (Or.inl ⟨by rfl, ?_⟩) (by assumption) ?_
            rotate_left
            · intro w hSw; (try dsimp only at hSw); go_split_ands; go_simp; with_reducible rfl
            change wpAnyH _ _ _ _ _ _ _ (Act.put _ (some 4) _) _
            simp only [Act.put, List.setIfInBounds_toArray, List.set_cons_zero, List.set_cons_succ, Array.toArray_toList]
            refine wpAnyH_done (by kernel_rfl) ?_ _
            go_wp2_with fail
            go_ret
            exact ⟨rfl, Mq.out.bel⟩
          · have hpl : decide ((2 : Int) = 1 ∨ (2 : Int) = 2) = true := rfl
            rw [hpl] at HPL
            clear hpl
            refine wp_region_held_drew (S := fun w' => w'.rangeAt g9 0 (ik C).toList) (by kernel_rfl) ?_ (fun hHeld => ?_)
            · exact K0.out
            generalize hw7 : World.drew _ = w7 at hHeld ⊢; have Mq := Lib.hid (Mq.out.drew.toVP hw7 rfl); clear hw7
            refine wpAnyH_ready (rs := [0]) (by kernel_rfl) (by simp) ?_
            refine (AllReadyH.cons rfl (fun K hK => ?_) AllReadyH.nil)
            go_simp
            (with_reducible refine (HKN.out _).mono ?_); rintro r wq ⟨rfl, hb⟩; have Mq := Lib.hid (Mq.out.below hb); clear hb
            go_wp2_with fail
            refine hK.out _ _ (by exact HOD.out _ _ _ Mq.out (by simp)) (fun hHeld => ?_)
            clear hK K
            refine wpAnyH_take (i := 1) (v := ?_) rfl (by kernel_rfl) (by kernel_rfl) (by kernel_rfl) (fun _ _ _ h => h) (Or.inl ⟨by rfl, ?_⟩) (by assumption) ?_
            rotate_left
            · intro w hSw; (try dsimp only at hSw); go_split_ands; go_simp; with_reducible rfl
            change wpAnyH _ _ _ _ _ _ _ (Act.put _ (some 86) _) _
            simp only [Act.put, List.setIfInBounds_toArray, List.set_cons_zero, List.set_cons_succ, Array.toArray_toList]
            refine wpAnyH_take (i := 2) (v := ?_) rfl (by kernel_rfl) (by kernel_rfl) (by kernel_rfl) (fun _ _ _ h => h) (Or.inl ⟨by rfl, ?_⟩) (by assumption) ?_
            rotate_left
            · intro w hSw; (try dsimp only at hSw); go_split_ands; go_simp; with_reducible rfl
            change wpAnyH _ _ _ _ _ _ _ (Act.put _ (some 87) _) _
            simp only [Act.put, List.setIfInBounds_toArray, List.set_cons_zero, List.set_cons_succ, Array.toArray_toList]
            refine wpAnyH_take (i := 4) (v := ?_) rfl (by kernel_rfl) (by kernel_rfl) (by kernel_rfl) (fun _ _ _ h => h) (Or.inl ⟨by rfl, ?_⟩) (by assumption) ?_
            rotate_left
            · intro w hSw; (try dsimp only at hSw); go_split_ands; go_simp; with_reducible rfl
            change wpAnyH _ _ _ _ _ _ _ (Act.put _ (some 89) _) _
            simp only [Act.put, List.setIfInBounds_toArray, List.set_cons_zero, List.set_cons_succ, Array.toArray_toList]
            refine wpAnyH_ready (rs := [3]) (by kernel_rfl) (by simp) ?_
            refine (AllReadyH.cons rfl (fun K hK => ?_) AllReadyH.nil)
            go_simp
            (with_reducible refine (HW.out _ Mq.out.bel).mono ?_); rintro r wq ⟨rfl, hb⟩; have Mq := Lib.hid (Mq.out.below hb); clear hb
            go_wp2_with fail
            refine hK.out _ _ (by exact HOD.out _ _ _ Mq.out (by simp)) (fun hHeld => ?_)
            clear hK K
            refine wpAnyH_take (i := 5) (v := ?_) rfl (by kernel_rfl) (by kernel_rfl) (by kernel_rfl) (fun _ _ _ h => h) (Or.inl ⟨by rfl, ?_⟩) (by assumption) ?_
            rotate_left
            · intro w hSw; (try dsimp only at hSw); go_split_ands; go_simp; with_reducible rfl
            change wpAnyH _ _ _ _ _ _ _ (Act.put _ (some 90) _) _
            simp only [Act.put, List.setIfInBounds_toArray, List.set_cons_zero, List.set_cons_succ, Array.toArray_toList]
            refine wpAnyH_take (i := 6) (v := ?_) rfl (by kernel_rfl) (by kernel_rfl) (by kernel_rfl) (fun _ _ _ h => h) (Or.inl ⟨by rfl, ?_⟩) (by assumption) ?_
            rotate_left
            · intro w hSw; (try dsimp only at hSw); go_split_ands; go_simp; with_reducible rfl
            change wpAnyH _ _ _ _ _ _ _ (Act.put _ (some 91) _) _
            simp only [Act.put, List.setIfInBounds_toArray, List.set_cons_zero, List.set_cons_succ, Array.toArray_toList]
            refine wpAnyH_take (i := 7) (v := ?_) rfl (by kernel_rfl) (by kernel_rfl) (by kernel_rfl) (fun _ _ _ h => h) (Or.inl ⟨by rfl, ?_⟩) (by assumption) ?_
            rotate_left
            · intro w hSw; (try dsimp only at hSw); go_split_ands; go_simp; with_reducible rfl
            change wpAnyH _ _ _ _ _ _ _ (Act.put _ (some 92) _) _
            simp only [Act.put, List.setIfInBounds_toArray, List.set_cons_zero, List.set_cons_succ, Array.toArray_toList]
            refine wpAnyH_take (i := 8) (v := ?_) rfl (by kernel_rfl) (by kernel_rfl) (by kernel_rfl) (fun _ _ _ h => h) (Or.inl ⟨by rfl, ?_⟩) (by assumption) ?_
            rotate_left
            · intro w hSw; (try dsimp only at hSw); go_split_ands; go_simp; with_reducible rfl
            change wpAnyH _ _ _ _ _ _ _ (Act.put _ (some 93) _) _
            simp only [Act.put, List.setIfInBounds_toArray, List.set_cons_zero, List.set_cons_succ, Array.toArray_toList]
            refine wpAnyH_take (i := 10) (v := ?_) rfl (by kernel_rfl) (by kernel_rfl) (by kernel_rfl) (fun _ _ _ h => h) (Or.inl ⟨by rfl, ?_⟩) (by assumption) ?_
            rotate_left
            · intro w hSw; (try dsimp only at hSw); go_split_ands; go_simp; with_reducible rfl
            change wpAnyH _ _ _ _ _ _ _ (Act.put _ (some 95) _) _
            simp only [Act.put, List.setIfInBounds_toArray, List.set_cons_zero, List.set_cons_succ, Array.toArray_toList]
            refine wpAnyH_take (i := 11) (v := ?_) rfl (by kernel_rfl) (by kernel_rfl) (by kernel_rfl) (fun _ _ _ h => h) (Or.inl ⟨by rfl, ?_⟩) (by assumption) ?_
            rotate_left
            · intro w hSw; (try dsimp only at hSw); go_split_ands; go_simp; with_reducible rfl
            change wpAnyH _ _ _ _ _ _ _ (Act.put _ (some 96) _) _
            simp only [Act.put, List.setIfInBounds_toArray, List.set_cons_zero, List.set_cons_succ, Array.toArray_toList]
            refine wpAnyH_ready (rs := [9]) (by kernel_rfl) (by simp) ?_
            refine (AllReadyH.cons rfl (fun K hK => ?_) AllReadyH.nil)
            go_simp
            (with_reducible refine (HPL.out _).mono ?_); rintro r wq ⟨rfl, rfl⟩
            go_wp2_with fail
            refine hK.out _ _ (by exact HOD.out _ _ _ Mq.out (by simp)) (fun hHeld => ?_)
            clear hK K
            refine wpAnyH_take (i := 12) (v := ?_) rfl (by kernel_rfl) (by kernel_rfl) (by kernel_rfl) (fun _ _ _ h => h) (Or.inl ⟨by rfl, ?_⟩) (by assumption) ?_
            rotate_left
            · intro w hSw; (try dsimp only at hSw); go_split_ands; go_simp; with_reducible rfl
            change wpAnyH _ _ _ _ _ _ _ (Act.put _ (some 97) _) _
            simp only [Act.put, List.setIfInBounds_toArray, List.set_cons_zero, List.set_cons_succ, Array.toArray_toList]
            refine wpAnyH_take (i := 13) (v := ?_) rfl (by kernel_rfl) (by kernel_rfl) (by kernel_rfl) (fun _ _ _ h => h) (Or.inl ⟨by rfl, ?_⟩) (by assumption) ?_
            rotate_left
            · intro w hSw; (try dsimp only at hSw); go_split_ands; go_simp; with_reducible rfl
            change wpAnyH _ _ _ _ _ _ _ (Act.put _ (some 98) _) _
            simp only [Act.put, List.setIfInBounds_toArray, List.set_cons_zero, List.set_cons_succ, Array.toArray_toList]
            refine wpAnyH_take (i := 14) (v := ?_) rfl (by kernel_rfl) (by kernel_rfl) (by kernel_rfl) (fun _ _ _ h => h) (Or.inl ⟨by rfl, ?_⟩) (by assumption) ?_
            rotate_left
            · intro w hSw; (try dsimp only at hSw); go_split_ands; go_simp; with_reducible rfl
            change wpAnyH _ _ _ _ _ _ _ (Act.put _ (some 99) _) _
            simp only [Act.put, List.setIfInBounds_toArray, List.set_cons_zero, List.set_cons_succ, Array.toArray_toList]
            refine wpAnyH_take (i := 15) (v := ?_) rfl (by kernel_rfl) (by kernel_rfl) (by kernel_rfl) (fun _ _ _ h => h) (Or.inl ⟨by rfl, ?_⟩) (by assumption) ?_
            rotate_left
            · intro w hSw; (try dsimp only at hSw); go_split_ands; go_simp; with_reducible rfl
            change wpAnyH _ _ _ _ _ _ _ (Act.put _ (some 100) _) _
            simp only [Act.put, List.setIfInBounds_toArray, List.set_cons_zero, List.set_cons_succ, Array.toArray_toList]
            refine wpAnyH_take (i := 16) (v := ?_) rfl (by kernel_rfl) (by kernel_rfl) (by kernel_rfl) (fun _ _ _ h => h) (Or.inl ⟨by rfl, ?_⟩) (by assumption) ?_
            rotate_left
            · intro w hSw; (try dsimp only at hSw); go_split_ands; go_simp; with_reducible rfl
            change wpAnyH _ _ _ _ _ _ _ (Act.put _ (some 101) _) _
            simp only [Act.put, List.setIfInBounds_toArray, List.set_cons_zero, List.set_cons_succ, Array.toArray_toList]
            refine wpAnyH_take (i := 17) (v := ?_) rfl (by kernel_rfl) (by kernel_rfl) (by kernel_rfl) (fun _ _ _ h => h) (Or.inl ⟨by rfl, ?_⟩) (by assumption) ?_
            rotate_left
            · intro w hSw; (try dsimp only at hSw); go_split_ands; go_simp; with_reducible rfl
            change wpAnyH _ _ _ _ _ _ _ (Act.put _ (some 102) _) _
            simp only [Act.put, List.setIfInBounds_toArray, List.set_cons_zero, List.set_cons_succ, Array.toArray_toList]
            refine wpAnyH_take (i := 18) (v := ?_) rfl (by kernel_rfl) (by kernel_rfl) (by kernel_rfl) (fun _ _ _ h => h) (Or.inl ⟨by rfl, ?_⟩) (by assumption) ?_
            rotate_left
            · intro w hSw; (try dsimp only at hSw); go_split_ands; go_simp; with_reducible rfl
            change wpAnyH _ _ _ _ _ _ _ (Act.put _ (some 103) _) _
            simp only [Act.put, List.setIfInBounds_toArray, List.set_cons_zero, List.set_cons_succ, Array.toArray_toList]
            refine wpAnyH_take (i := 19) (v := ?_) rfl (by kernel_rfl) (by kernel_rfl) (by kernel_rfl) (fun _ _ _ h => h) (Or.inl ⟨by rfl, ?_⟩) (by assumption) ?_
            rotate_left
            · intro w hSw; (try dsimp only at hSw); go_split_ands; go_simp; with_reducible rfl
            change wpAnyH _ _ _ _ _ _ _ (Act.put _ (some 104) _) _
            simp only [Act.put, List.setIfInBounds_toArray, List.set_cons_zero, List.set_cons_succ, Array.toArray_toList]
            refine wpAnyH_take (i := 21) (v := ?_) rfl (by kernel_rfl) (by kernel_rfl) (by kernel_rfl) (fun _ _ _ h => h) (Or.inl ⟨by rfl, ?_⟩) (by assumption) ?_
            rotate_left
            · intro w hSw; (try dsimp only at hSw); go_split_ands; go_simp; with_reducible rfl
            change wpAnyH _ _ _ _ _ _ _ (Act.put _ (some 106) _) _
            simp only [Act.put, List.setIfInBounds_toArray, List.set_cons_zero, List.set_cons_succ, Array.toArray_toList]
            refine wpAnyH_ready (rs := [20]) (by kernel_rfl) (by simp) ?_
            refine (AllReadyH.cons rfl (fun K hK => ?_) AllReadyH.nil)
            go_simp
            (with_reducible refine (HSD.out _).mono ?_); rintro r wq ⟨rfl, rfl⟩
            go_wp2_with fail
            refine hK.out _ _ (by exact HOD.out _ _ _ Mq.out (by simp)) (fun hHeld => ?_)
            clear hK K
            refine wpAnyH_take (i := 22) (v := ?_) rfl (by kernel_rfl) (by kernel_rfl) (by kernel_rfl) (fun _ _ _ h => h) (Or.inl ⟨by rfl, ?_⟩) (by assumption) ?_
            rotate_left
            · intro w hSw; (try dsimp only at hSw); go_split_ands; go_simp; with_reducible rfl
            change wpAnyH _ _ _ _ _ _ _ (Act.put _ (some 107) _) _
            simp only [Act.put, List.setIfInBounds_toArray, List.set_cons_zero, List.set_cons_succ, Array.toArray_toList]
            refine wpAnyH_take (i := 23) (v := ?_) rfl (by kernel_rfl) (by kernel_rfl) (by kernel_rfl) (fun _ _ _ h => h) (Or.inl ⟨by rfl, ?_⟩) (by assumption) ?_
            rotate_left
            · intro w hSw; (try dsimp only at hSw); go_split_ands; go_simp; with_reducible rfl
            change wpAnyH _ _ _ _ _ _ _ (Act.put _ (some 108) _) _
            simp only [Act.put, List.setIfInBounds_toArray, List.set_cons_zero, List.set_cons_succ, Array.toArray_toList]
            refine wpAnyH_take (i := 24) (v := ?_) rfl (by kernel_rfl) (by kernel_rfl) (by kernel_rfl) (fun _ _ _ h => h) (Or.inl ⟨by rfl, ?_⟩) (by assumption) ?_
            rotate_left
            · intro w hSw; (try dsimp only at hSw); go_split_ands; go_simp; with_reducible rfl
            change wpAnyH _ _ _ _ _ _ _ (Act.put _ (some 109) _) _
            simp only [Act.put, List.setIfInBounds_toArray, List.set_cons_zero, List.set_cons_succ, Array.toArray_toList]
            refine wpAnyH_take (i := 25) (v := ?_) rfl (by kernel_rfl) (by kernel_rfl) (by kernel_rfl) (fun _ _ _ h => h) (Or.inl ⟨by rfl, ?_⟩) (by assumption) ?_
            rotate_left
            · intro w hSw; (try dsimp only at hSw); go_split_ands; go_simp; with_reducible rfl
            change wpAnyH _ _ _ _ _ _ _ (Act.put _ (some 110) _) _
            simp only [Act.put, List.setIfInBounds_toArray, List.set_cons_zero, List.set_cons_succ, Array.toArray_toList]
            refine wpAnyH_take (i := 27) rfl (by kernel_rfl) (by kernel_rfl) (by kernel_rfl) (fun _ _ _ h => h) (yieldsIf_load_mid (by rfl) _ _ rfl _ _ rfl _ _ (fun w hw => hw) Tryd.underlying25 rfl (by rw [Array.length_toList]; exact info_ik H15.out)) (by assumption) ?_
            change wpAnyH _ _ _ _ _ _ _ (Act.put _ (some 112) _) _
            simp only [Act.put, List.setIfInBounds_toArray, List.set_cons_zero, List.set_cons_succ, Array.toArray_toList]
            refine wpAnyH_ready (rs := [26]) (by kernel_rfl) (by simp) ?_
            refine (AllReadyH.cons rfl (fun K hK => ?_) AllReadyH.nil)
            go_simp
            (with_reducible refine (HKI.out _ _ _ Mq.out (by simp)).mono ?_); rintro r wq ⟨rfl, hb⟩; have Mq := Lib.hid (Mq.out.below hb); clear hb
            go_wp2_with fail
            refine hK.out _ _ (by exact HOD.out _ _ _ Mq.out (by simp)) (fun hHeld => ?_)
            clear hK K
            refine wpAnyH_take (i := 28) (v := ?_) rfl (by kernel_rfl) (by kernel_rfl) (by kernel_rfl) (fun _ _ _ h => h) (Or.inl ⟨by rfl, ?_⟩) (by assumption) ?_
            rotate_left
            · intro w hSw; (try dsimp only at hSw); go_split_ands; go_simp; with_reducible rfl
            change wpAnyH _ _ _ _ _ _ _ (Act.put _ (some 113) _) _
            simp only [Act.put, List.setIfInBounds_toArray, List.set_cons_zero, List.set_cons_succ, Array.toArray_toList]
            refine wpAnyH_take (i := 29) (v := ?_) rfl (by kernel_rfl) (by kernel_rfl) (by kernel_rfl) (fun _ _ _ h => h) (Or.inl ⟨by rfl, ?_⟩) (by assumption) ?_
            rotate_left
            · intro w hSw; (try dsimp only at hSw); go_split_ands; go_simp; with_reducible rfl
            change wpAnyH _ _ _ _ _ _ _ (Act.put _ (some 114) _) _
            simp only [Act.put, List.setIfInBounds_toArray, List.set_cons_zero, List.set_cons_succ, Array.toArray_toList]
            refine wpAnyH_take (i := 30) (v := ?_) rfl (by kernel_rfl) (by kernel_rfl) (by kernel_rfl) (fun _ _ _ h => h) (Or.inl ⟨by rfl, ?_⟩) (by assumption) ?_
            rotate_left
            · intro w hSw; (try dsimp only at hSw); go_split_ands; go_simp; with_reducible rfl
            change wpAnyH _ _ _ _ _ _ _ (Act.put _ (some 4) _) _
            simp only [Act.put, List.setIfInBounds_toArray, List.set_cons_zero, List.set_cons_succ, Array.toArray_toList]
            refine wpAnyH_done (by kernel_rfl) ?_ _
            go_wp2_with fail
            go_ret
            exact ⟨rfl, Mq.out.bel⟩
          · have hpl : decide (kind = 1 ∨ kind = 2) = false := decide_eq_false (by omega)
            rw [hpl] at HPL
            have h1b : (kind == 1) = false := by simpa using q1
            have h2b : (kind == 2) = false := by simpa using q2
            clear hpl q1 q2
            refine wp_region_held_drew (S := fun w' => w'.rangeAt g9 0 (ik C).toList) (by kernel_rfl) ?_ (fun hHeld => ?_)
            · exact K0.out
            generalize hw7 : World.drew _ = w7 at hHeld ⊢; have Mq := Lib.hid (Mq.out.drew.toVP hw7 rfl); clear hw7
            refine wpAnyH_ready (rs := [0]) (by kernel_rfl) (by simp) ?_
            refine (AllReadyH.cons rfl (fun K hK => ?_) AllReadyH.nil)
            go_simp
            (with_reducible refine (HKN.out _).mono ?_); rintro r wq ⟨rfl, hb⟩; have Mq := Lib.hid (Mq.out.below hb); clear hb
            go_wp2_with fail
            refine hK.out _ _ (by exact HOD.out _ _ _ Mq.out (by simp)) (fun hHeld => ?_)
            clear hK K
            refine wpAnyH_take (i := 1) (v := ?_) rfl (by kernel_rfl) (by kernel_rfl) (by kernel_rfl) (fun _ _ _ h => h) (Or.inl ⟨by rfl, ?_⟩) (by assumption) ?_
            rotate_left
            · intro w hSw; (try dsimp only at hSw); go_split_ands; go_simp; with_reducible rfl
            change wpAnyH _ _ _ _ _ _ _ (Act.put _ (some 86) _) _
            simp only [Act.put, List.setIfInBounds_toArray, List.set_cons_zero, List.set_cons_succ, Array.toArray_toList]
            refine wpAnyH_take (i := 2) (v := ?_) rfl (by kernel_rfl) (by kernel_rfl) (by kernel_rfl) (fun _ _ _ h => h) (Or.inl ⟨by rfl, ?_⟩) (by assumption) ?_
            rotate_left
            · intro w hSw; (try dsimp only at hSw); go_split_ands; go_simp; with_reducible rfl
            change wpAnyH _ _ _ _ _ _ _ (Act.put _ (some 87) _) _
            simp only [Act.put, List.setIfInBounds_toArray, List.set_cons_zero, List.set_cons_succ, Array.toArray_toList]
            refine wpAnyH_take (i := 4) (v := ?_) rfl (by kernel_rfl) (by kernel_rfl) (by kernel_rfl) (fun _ _ _ h => h) (Or.inl ⟨by rfl, ?_⟩) (by assumption) ?_
            rotate_left
            · intro w hSw; (try dsimp only at hSw); go_split_ands; go_simp; with_reducible rfl
            change wpAnyH _ _ _ _ _ _ _ (Act.put _ (some 89) _) _
            simp only [Act.put, List.setIfInBounds_toArray, List.set_cons_zero, List.set_cons_succ, Array.toArray_toList]
            refine wpAnyH_ready (rs := [3]) (by kernel_rfl) (by simp) ?_
            refine (AllReadyH.cons rfl (fun K hK => ?_) AllReadyH.nil)
            go_simp
            (with_reducible refine (HW.out _ Mq.out.bel).mono ?_); rintro r wq ⟨rfl, hb⟩; have Mq := Lib.hid (Mq.out.below hb); clear hb
            go_wp2_with fail
            refine hK.out _ _ (by exact HOD.out _ _ _ Mq.out (by simp)) (fun hHeld => ?_)
            clear hK K
            refine wpAnyH_take (i := 5) (v := ?_) rfl (by kernel_rfl) (by kernel_rfl) (by kernel_rfl) (fun _ _ _ h => h) (Or.inl ⟨by rfl, ?_⟩) (by assumption) ?_
            rotate_left
            · intro w hSw; (try dsimp only at hSw); go_split_ands; go_simp; with_reducible rfl
            change wpAnyH _ _ _ _ _ _ _ (Act.put _ (some 90) _) _
            simp only [Act.put, List.setIfInBounds_toArray, List.set_cons_zero, List.set_cons_succ, Array.toArray_toList]
            refine wpAnyH_take (i := 6) (v := ?_) rfl (by kernel_rfl) (by kernel_rfl) (by kernel_rfl) (fun _ _ _ h => h) (Or.inl ⟨by rfl, ?_⟩) (by assumption) ?_
            rotate_left
            · intro w hSw; (try dsimp only at hSw); go_split_ands; go_simp; with_reducible rfl
            change wpAnyH _ _ _ _ _ _ _ (Act.put _ (some 91) _) _
            simp only [Act.put, List.setIfInBounds_toArray, List.set_cons_zero, List.set_cons_succ, Array.toArray_toList]
            refine wpAnyH_take (i := 7) (v := ?_) rfl (by kernel_rfl) (by kernel_rfl) (by kernel_rfl) (fun _ _ _ h => h) (Or.inl ⟨by rfl, ?_⟩) (by assumption) ?_
            rotate_left
            · intro w hSw; (try dsimp only at hSw); go_split_ands; go_simp; with_reducible rfl
            change wpAnyH _ _ _ _ _ _ _ (Act.put _ (some 92) _) _
            simp only [Act.put, List.setIfInBounds_toArray, List.set_cons_zero, List.set_cons_succ, Array.toArray_toList]
            refine wpAnyH_take (i := 8) (v := ?_) rfl (by kernel_rfl) (by kernel_rfl) (by kernel_rfl) (fun _ _ _ h => h) (Or.inl ⟨by rfl, ?_⟩) (by assumption) ?_
            rotate_left
            · intro w hSw; (try dsimp only at hSw); go_split_ands; go_simp; with_reducible rfl
            change wpAnyH _ _ _ _ _ _ _ (Act.put _ (some 93) _) _
            simp only [Act.put, List.setIfInBounds_toArray, List.set_cons_zero, List.set_cons_succ, Array.toArray_toList]
            refine wpAnyH_take (i := 10) (v := ?_) rfl (by kernel_rfl) (by kernel_rfl) (by kernel_rfl) (fun _ _ _ h => h) (Or.inl ⟨by rfl, ?_⟩) (by assumption) ?_
            rotate_left
            · intro w hSw; (try dsimp only at hSw); go_split_ands; go_simp; with_reducible rfl
            change wpAnyH _ _ _ _ _ _ _ (Act.put _ (some 95) _) _
            simp only [Act.put, List.setIfInBounds_toArray, List.set_cons_zero, List.set_cons_succ, Array.toArray_toList]
            refine wpAnyH_take (i := 11) (v := ?_) rfl (by kernel_rfl) (by kernel_rfl) (by kernel_rfl) (fun _ _ _ h => h) (Or.inl ⟨by rfl, ?_⟩) (by assumption) ?_
            rotate_left
            · intro w hSw; (try dsimp only at hSw); go_split_ands; go_simp; with_reducible rfl
            change wpAnyH _ _ _ _ _ _ _ (Act.put _ (some 96) _) _
            simp only [Act.put, List.setIfInBounds_toArray, List.set_cons_zero, List.set_cons_succ, Array.toArray_toList]
            refine wpAnyH_ready (rs := [9]) (by kernel_rfl) (by simp) ?_
            refine (AllReadyH.cons rfl (fun K hK => ?_) AllReadyH.nil)
            go_simp
            (with_reducible refine (HPL.out _).mono ?_); rintro r wq ⟨rfl, rfl⟩
            go_wp2_with fail
            refine hK.out _ _ (by exact HOD.out _ _ _ Mq.out (by simp)) (fun hHeld => ?_)
            clear hK K
            refine wpAnyH_take (i := 12) (v := ?_) rfl (by kernel_rfl) (by kernel_rfl) (by kernel_rfl) (fun _ _ _ h => h) (Or.inl ⟨by rfl, ?_⟩) (by assumption) ?_
            rotate_left
            · intro w hSw; (try dsimp only at hSw); go_split_ands; go_simp; with_reducible rfl
            change wpAnyH _ _ _ _ _ _ _ (Act.put _ (some 97) _) _
            simp only [Act.put, List.setIfInBounds_toArray, List.set_cons_zero, List.set_cons_succ, Array.toArray_toList]
            refine wpAnyH_take (i := 13) (v := ?_) rfl (by kernel_rfl) (by kernel_rfl) (by kernel_rfl) (fun _ _ _ h => h) (Or.inl ⟨by rfl, ?_⟩) (by assumption) ?_
            rotate_left
            · intro w hSw; (try dsimp only at hSw); go_split_ands; go_simp; with_reducible rfl
            change wpAnyH _ _ _ _ _ _ _ (Act.put _ (some 98) _) _
            simp only [Act.put, List.setIfInBounds_toArray, List.set_cons_zero, List.set_cons_succ, Array.toArray_toList]
            refine wpAnyH_take (i := 14) (v := ?_) rfl (by kernel_rfl) (by kernel_rfl) (by kernel_rfl) (fun _ _ _ h => h) (Or.inl ⟨by rfl, ?_⟩) (by assumption) ?_
            rotate_left
            · intro w hSw; (try dsimp only at hSw); go_split_ands; go_simp; with_reducible rfl
            change wpAnyH _ _ _ _ _ _ _ (Act.put _ (some 99) _) _
            simp only [Act.put, List.setIfInBounds_toArray, List.set_cons_zero, List.set_cons_succ, Array.toArray_toList]
            refine wpAnyH_take (i := 15) (v := ?_) rfl (by kernel_rfl) (by kernel_rfl) (by kernel_rfl) (fun _ _ _ h => h) (Or.inl ⟨by rfl, ?_⟩) (by assumption) ?_
            rotate_left
            · intro w hSw; (try dsimp only at hSw); go_split_ands; go_simp; with_reducible rfl
            change wpAnyH _ _ _ _ _ _ _ (Act.put _ (some 100) _) _
            simp only [Act.put, List.setIfInBounds_toArray, List.set_cons_zero, List.set_cons_succ, Array.toArray_toList]
            refine wpAnyH_take (i := 16) (v := ?_) rfl (by kernel_rfl) (by kernel_rfl) (by kernel_rfl) (fun _ _ _ h => h) (Or.inl ⟨by rfl, ?_⟩) (by assumption) ?_
            rotate_left
            · intro w hSw; (try dsimp only at hSw); go_split_ands; go_simp; with_reducible rfl
            change wpAnyH _ _ _ _ _ _ _ (Act.put _ (some 101) _) _
            simp only [Act.put, List.setIfInBounds_toArray, List.set_cons_zero, List.set_cons_succ, Array.toArray_toList]
            refine wpAnyH_take (i := 17) (v := ?_) rfl (by kernel_rfl) (by kernel_rfl) (by kernel_rfl) (fun _ _ _ h => h) (Or.inl ⟨by rfl, ?_⟩) (by assumption) ?_
            rotate_left
            · intro w hSw; (try dsimp only at hSw); go_split_ands; go_simp; with_reducible rfl
            change wpAnyH _ _ _ _ _ _ _ (Act.put _ (some 102) _) _
            simp only [Act.put, List.setIfInBounds_toArray, List.set_cons_zero, List.set_cons_succ, Array.toArray_toList]
            refine wpAnyH_take (i := 18) (v := ?_) rfl (by kernel_rfl) (by kernel_rfl) (by kernel_rfl) (fun _ _ _ h => h) (Or.inl ⟨by rfl, ?_⟩) (by assumption) ?_
            rotate_left
            · intro w hSw; (try dsimp only at hSw); go_split_ands; go_simp; with_reducible rfl
            change wpAnyH _ _ _ _ _ _ _ (Act.put _ (some 103) _) _
            simp only [Act.put, List.setIfInBounds_toArray, List.set_cons_zero, List.set_cons_succ, Array.toArray_toList]
            refine wpAnyH_take (i := 19) (v := ?_) rfl (by kernel_rfl) (by kernel_rfl) (by kernel_rfl) (fun _ _ _ h => h) (Or.inl ⟨by rfl, ?_⟩) (by assumption) ?_
            rotate_left
            · intro w hSw; (try dsimp only at hSw); go_split_ands; go_simp; with_reducible rfl
            change wpAnyH _ _ _ _ _ _ _ (Act.put _ (some 104) _) _
            simp only [Act.put, List.setIfInBounds_toArray, List.set_cons_zero, List.set_cons_succ, Array.toArray_toList]
            refine wpAnyH_take (i := 21) (v := ?_) rfl (by kernel_rfl) (by kernel_rfl) (by kernel_rfl) (fun _ _ _ h => h) (Or.inl ⟨by rfl, ?_⟩) (by assumption) ?_
            rotate_left
            · intro w hSw; (try dsimp only at hSw); go_split_ands; go_simp; with_reducible rfl
            change wpAnyH _ _ _ _ _ _ _ (Act.put _ (some 106) _) _
            simp only [Act.put, List.setIfInBounds_toArray, List.set_cons_zero, List.set_cons_succ, Array.toArray_toList]
            refine wpAnyH_ready (rs := [20]) (by kernel_rfl) (by simp) ?_
            refine (AllReadyH.cons rfl (fun K hK => ?_) AllReadyH.nil)
            go_simp
            (with_reducible refine (HSD.out _).mono ?_); rintro r wq ⟨rfl, rfl⟩
            go_wp2_with fail
            refine hK.out _ _ (by exact HOD.out _ _ _ Mq.out (by simp)) (fun hHeld => ?_)
            clear hK K
            refine wpAnyH_take (i := 22) (v := ?_) rfl (by kernel_rfl) (by kernel_rfl) (by kernel_rfl) (fun _ _ _ h => h) (Or.inl ⟨by rfl, ?_⟩) (by assumption) ?_
            rotate_left
            · intro w hSw; (try dsimp only at hSw); go_split_ands; go_simp; with_reducible rfl
            change wpAnyH _ _ _ _ _ _ _ (Act.put _ (some 107) _) _
            simp only [Act.put, List.setIfInBounds_toArray, List.set_cons_zero, List.set_cons_succ, Array.toArray_toList]
            refine wpAnyH_take (i := 23) (v := ?_) rfl (by kernel_rfl) (by kernel_rfl) (by kernel_rfl) (fun _ _ _ h => h) (Or.inl ⟨by rfl, ?_⟩) (by assumption) ?_
            rotate_left
            · intro w hSw; (try dsimp only at hSw); go_split_ands; go_simp; with_reducible rfl
            change wpAnyH _ _ _ _ _ _ _ (Act.put _ (some 108) _) _
            simp only [Act.put, List.setIfInBounds_toArray, List.set_cons_zero, List.set_cons_succ, Array.toArray_toList]
            refine wpAnyH_take (i := 24) (v := ?_) rfl (by kernel_rfl) (by kernel_rfl) (by kernel_rfl) (fun _ _ _ h => h) (Or.inl ⟨by rfl, ?_⟩) (by assumption) ?_
            rotate_left
            · intro w hSw; (try dsimp only at hSw); go_split_ands; go_simp; with_reducible rfl
            change wpAnyH _ _ _ _ _ _ _ (Act.put _ (some 109) _) _
            simp only [Act.put, List.setIfInBounds_toArray, List.set_cons_zero, List.set_cons_succ, Array.toArray_toList]
            refine wpAnyH_take (i := 25) (v := ?_) rfl (by kernel_rfl) (by kernel_rfl) (by kernel_rfl) (fun _ _ _ h => h) (Or.inl ⟨by rfl, ?_⟩) (by assumption) ?_
            rotate_left
            · intro w hSw; (try dsimp only at hSw); go_split_ands; go_simp; with_reducible rfl
            change wpAnyH _ _ _ _ _ _ _ (Act.put _ (some 110) _) _
            simp only [Act.put, List.setIfInBounds_toArray, List.set_cons_zero, List.set_cons_succ, Array.toArray_toList]
            refine wpAnyH_take (i := 27) rfl (by kernel_rfl) (by kernel_rfl) (by kernel_rfl) (fun _ _ _ h => h) (yieldsIf_load_mid (by rfl) _ _ rfl _ _ rfl _ _ (fun w hw => hw) Tryd.underlying25 rfl (by rw [Array.length_toList]; exact info_ik H15.out)) (by assumption) ?_
            change wpAnyH _ _ _ _ _ _ _ (Act.put _ (some 112) _) _
            simp only [Act.put, List.setIfInBounds_toArray, List.set_cons_zero, List.set_cons_succ, Array.toArray_toList]
            refine wpAnyH_ready (rs := [26]) (by kernel_rfl) (by simp) ?_
            refine (AllReadyH.cons rfl (fun K hK => ?_) AllReadyH.nil)
            go_simp
            (with_reducible refine (HKI.out _ _ _ Mq.out (by simp)).mono ?_); rintro r wq ⟨rfl, hb⟩; have Mq := Lib.hid (Mq.out.below hb); clear hb
            go_wp2_with fail
            refine hK.out _ _ (by exact HOD.out _ _ _ Mq.out (by simp)) (fun hHeld => ?_)
            clear hK K
            refine wpAnyH_take (i := 28) (v := ?_) rfl (by kernel_rfl) (by kernel_rfl) (by kernel_rfl) (fun _ _ _ h => h) (Or.inl ⟨by rfl, ?_⟩) (by assumption) ?_
            rotate_left
            · intro w hSw; (try dsimp only at hSw); go_split_ands; go_simp; with_reducible rfl
            change wpAnyH _ _ _ _ _ _ _ (Act.put _ (some 113) _) _
            simp only [Act.put, List.setIfInBounds_toArray, List.set_cons_zero, List.set_cons_succ, Array.toArray_toList]
            refine wpAnyH_take (i := 29) (v := ?_) rfl (by kernel_rfl) (by kernel_rfl) (by kernel_rfl) (fun _ _ _ h => h) (Or.inl ⟨by rfl, ?_⟩) (by assumption) ?_
            rotate_left
            · intro w hSw; (try dsimp only at hSw); go_split_ands; go_simp; with_reducible rfl
            change wpAnyH _ _ _ _ _ _ _ (Act.put _ (some 114) _) _
            simp only [Act.put, List.setIfInBounds_toArray, List.set_cons_zero, List.set_cons_succ, Array.toArray_toList]
            refine wpAnyH_take (i := 30) (v := ?_) rfl (by kernel_rfl) (by kernel_rfl) (by kernel_rfl) (fun _ _ _ h => h) (Or.inl ⟨by rfl, ?_⟩) (by assumption) ?_
            rotate_left
            · intro w hSw; (try dsimp only at hSw); go_split_ands; go_simp; with_reducible rfl
            change wpAnyH _ _ _ _ _ _ _ (Act.put _ (some 4) _) _
            simp only [Act.put, List.setIfInBounds_toArray, List.set_cons_zero, List.set_cons_succ, Array.toArray_toList]
            refine wpAnyH_done (by kernel_rfl) ?_ _
            go_wp2_with fail
            go_ret
            exact ⟨rfl, Mq.out.bel⟩
theorem contract_packetKinds (W : World) (v0 v1 : Value) (a0 : ∃ z, v0 = .int .i64 z ∧ in64 z) (a1 : ∃ A c, ∃ l : List Pk, v1 = .slice A l.length c ∧ l.length ≤ c ∧ c ≤ 9223372036854775807 ∧ Rd W W.heap.size 41 A l.length (pks l) ∧ ∀ p ∈ l, p.T.length = 32 ∧ RB W W.heap.size p.A p.l ∧ p.l.length ≤ p.cp ∧ p.cp ≤ 9223372036854775807)
    (hT : ∀ w, Below W.heap.size W w → Lib.TabIs Tryd.prog w "strings.asciiSpace" .u8 Lib.asciiSpaceTab) :
    Calls Tryd.prog 3 #[v0, v1] W fun e W' => e = .returned (.bool true) ∧ Below W.heap.size W W' := by
  obtain ⟨kind, rfl, -⟩ := a0
  obtain ⟨A, c, l, rfl, h1, h2, h3, h4⟩ := a1
  exact packetKinds_main W kind l A c h3 h4 (by omega) hT
end Go.Proofs.YtnbemfceoianiaaDoor
