/-
  vigillaw06.TokenIssues returns true, whatever it is called with. Conditions: none but that the slices can be read.
-/
import Derived.Test.YtghcdffpplimoaaTk7
import Derived.Test.YtghcdffpplimoaaTk0
import Derived.Test.YtghcdffpplimoaaOpen3
namespace Go.Proofs.Ytghcdffpplimoaa
set_option linter.unusedVariables false
set_option linter.unusedSimpArgs false
open Go.RowKit

abbrev Ord := Int × Int × Rw
theorem f3s_get : ∀ (fs : List Ord) (k : Nat) (f : Ord), fs[k]? = some f → ∀ j v, (f3 f)[j]? = some v → (fs.flatMap f3)[k * 3 + j]? = some v
  | [], k, f, h, _, _, _ => by simp at h
  | a :: fs, 0, f, h, j, v, hv => by
    have : a = f := by simpa using h
    subst this
    have hj : j < (f3 a).length := by
      rcases Nat.lt_or_ge j (f3 a).length with h1 | h1
      · exact h1
      · rw [List.getElem?_eq_none h1] at hv; cases hv
    rw [List.flatMap_cons, Nat.zero_mul, Nat.zero_add, List.getElem?_append_left hj]
    exact hv
  | a :: fs, k + 1, f, h, j, v, hv => by
    have ih := f3s_get fs k f (by simpa using h) j v hv
    rw [List.flatMap_cons, List.getElem?_append_right (by show 3 ≤ _; omega)]
    rw [show (k + 1) * 3 + j - (f3 a).length = k * 3 + j by show (k + 1) * 3 + j - 3 = _; omega]
    exact ih
theorem MtX.newX {W w w2 : World} {bl : Bl} {ow : List Ro} {g gk : Nat} {kb : List UInt8} {cs : List C4} {t : TypeId} {zs : Array Value} (h : MtX W bl ow g gk kb cs w) (hw : w.alloc (.cells zs t) = w2) : ∃ g2, w.heap.size = g2 ∧ MtX W ((g2, t, zs) :: bl) ow g gk kb cs w2 := by
  subst hw
  exact ⟨_, rfl, h.newb t zs⟩
theorem MtX.toV {W w w2 w3 : World} {bl : Bl} {ow : List Ro} {g gk : Nat} {kb : List UInt8} {cs : List C4} (h : MtX W bl ow g gk kb cs w) (e : w2 = w3) (hh : w = w2) : MtX W bl ow g gk kb cs w3 := by
  subst e hh
  exact h
theorem info_rc4 (a b c d : Int) : (Try.prog.info? 23).map (·.size) = some (#[Value.int .i64 a, .int .i64 b, .int .i64 c, .int .i64 d] : Array Value).size := by kernel_rfl
theorem ne4c (i r x s : Int) (w : World) : (binOp .neq 30 (.agg #[.int .i64 i, .int .i64 r, .int .i64 x, .int .i64 s]) (.agg #[.int .i64 i, .int .i64 r, .int .i64 x, .int .i64 s])).run Try.prog w = .ok (.bool false) w := by go_simp
theorem eq4d (i r x s : Int) (w : World) : (binOp .eql 30 (.agg #[.int .i64 i, .int .i64 r, .int .i64 x, .int .i64 s]) (.agg #[.int .i64 i, .int .i64 r, .int .i64 x, .int .i64 s])).run Try.prog w = .ok (.bool true) w := by go_simp
theorem neY36 (w : World) : (binOp .neq 78 (.agg Y36) (.agg Y36)).run Try.prog w = .ok (.bool false) w := by kernel_rfl
theorem el_cls : El Try.prog 72 30 4 32 := El.of Try.underlying72 (z := .agg #[.int .i64 0, .int .i64 0, .int .i64 0, .int .i64 0]) (by kernel_rfl) rfl (by decide)
abbrev allRow (v : Value) (n : Nat) (zs : List Value) : Ro := ⟨30, 4, v, n, zs⟩
theorem MtX.row9 {W w : World} {bl : Bl} {g gk n : Nat} {kb : List UInt8} {cs : List C4} {v : Value} {zs : List Value} (h : MtX W bl [allRow v n zs] g gk kb cs w) : ∃ A c, v = .slice A n c := by
  obtain ⟨A, c, Ak, ck, m⟩ := h
  obtain ⟨A9, c9, e9, -⟩ := own_form (m.row [_, _])
  exact ⟨A9, c9, e9⟩
theorem MtX.rd9 {W w : World} {bl : Bl} {g gk n c9 : Nat} {kb : List UInt8} {cs : List C4} {A9 : Option Addr} {zs : List Value} (h : MtX W bl [allRow (.slice A9 n c9) n zs] g gk kb cs w) : Rd w w.heap.size 4 A9 n zs := by
  obtain ⟨A, c, Ak, ck, m⟩ := h
  exact own_rd (m.row [_, _])
/-- What has been issued up to an order. -/
def IsL (W : World) (g gk : Nat) (kb : List UInt8) (k : Nat) (s9 : Value) (w : World) : Prop := ∃ cs : List C4, cs.length ≤ k ∧ MtX W [] [allRow s9 cs.length (c4s cs)] g gk kb cs w
def IsC (W : World) (row : Ro) (g gk : Nat) (kb : List UInt8) (cs : List C4) (zs : Array Value) (s12 : Value) (w : World) : Prop := ∃ g12, s12 = .pointer (some ⟨g12, 0, none⟩) ∧ MtX W [(g12, 23, zs)] [row] g gk kb cs w
def IsT (W : World) (row : Ro) (g gk : Nat) (kb : List UInt8) (cs : List C4) (g12 : Nat) (zs tk : Array Value) (e0 : Int) (s13 s14 : Value) (w : World) : Prop := ∃ g13, s13 = .pointer (some ⟨g13, 0, none⟩) ∧ s14 = .int .i64 e0 ∧ MtX W [(g13, 78, tk), (g12, 23, zs)] [row] g gk kb cs w

set_option maxRecDepth 100000 in
set_option maxHeartbeats 16000000 in
theorem tokenIssues_main (W : World) (A1 A2 : Option Addr) (c1 c2 : Nat) (l1 : List UInt8) (h1 : RB W W.heap.size A1 l1) (d1 : l1.length ≤ c1 ∧ c1 ≤ 9223372036854775807) (fs : List Ord) (hfs : Rd W W.heap.size 3 A2 fs.length (fs.flatMap f3))
    (hfo : ∀ f ∈ fs, f.2.2.ok .i64 W) (hfn : fs.length ≤ 9223372036854775807) (serial : Int) (hs01 : -9223372036854775808 ≤ serial) (hs02 : serial ≤ 9223372036854775807) :
    Calls Try.prog 5 #[.slice A1 l1.length c1, .slice A2 fs.length c2, .int .i64 serial] W fun e W' => e = .returned (.bool true) ∧ Below W.heap.size W W' := by
  obtain ⟨k, k1, r1, k3, -, HC1⟩ := cut_ex6 70 h1 d1 (by decide)
  have HR1 := Lib.hid (fun w' (hb : Below W.heap.size W w') => RB.keep r1 hb)
  obtain ⟨N1, e1⟩ : ∃ n, l1.length = n := ⟨_, rfl⟩
  obtain ⟨M1, f1⟩ : ∃ n, k.length = n := ⟨_, rfl⟩
  obtain ⟨n, hn⟩ : ∃ n, fs.length = n := ⟨_, rfl⟩
  simp only [e1, f1] at HC1 ⊢
  rw [hn] at hfn ⊢
  have HC1 := Lib.hid HC1
  have F1 := Lib.hid f1
  have HFN := Lib.hid hn
  have HFS := Lib.hid hfs
  have HFO := Lib.hid hfo
  have hM1 : M1 ≤ 70 := by omega
  clear h1 d1 k1 r1 k3 e1 f1 hn hfs hfo
  have M0 := Lib.hid (Mst.start W)
  by_cases hlt : M1 < 16
  · have HP := Lib.hid (fun w' => tnew_no w' A1 M1 c1 hlt)
    have i1 : (M1 : Int) < 16 := by omega
    go_enter Try.func5, Try.ntmps5
    go_wp2_with fail
    refine (HC1.out _).mono ?_
    rintro e w1 ⟨rfl, rfl⟩
    go_wp2_with fail
    refine (HP.out _).mono ?_
    rintro e w1 ⟨rfl, rfl⟩
    go_wp2_with fail
    refine (known06 _).mono ?_
    rintro e w2 ⟨rfl, hb⟩
    have Mq := Lib.hid (M0.out.below hb)
    clear hb
    go_wp2
    go_ret
    exact ⟨rfl, Mq.out.bel⟩
  · have HNW := Lib.hid (show ∀ w', Mst W w' [] [] → Calls Try.prog 34 #[.slice A1 M1 c1] w' fun e w2 => ∃ g gk, e = .returned (.tuple #[.pointer (some ⟨g, 0, none⟩), .int .i64 0]) ∧ MtX W [] [] g gk k [] w2 from fun w' hm => by
      have := tnew_any W w' [] [] hm A1 c1 k (HR1.out w' hm.bel) (by have := F1.out; omega) (by have := F1.out; omega)
      rw [F1.out] at this
      exact this)
    have HMA := Lib.hid (fun w' bl ow g gk cs (hm : MtX W bl ow g gk k cs w') => master_any W w' bl ow g gk k (by have := F1.out; omega) cs hm)
    have HKB := Lib.hid (show ∀ w' gk, KeyW w' gk k → Calls Try.prog 36 #[.pointer (some ⟨gk, 0, none⟩)] w' fun e w2 => ∃ A c, e = .returned (.slice A M1 c) ∧ RB w2 w2.heap.size A k ∧ Below w'.heap.size w' w2 from fun w' gk hk => by
      refine (kbytes_any w' gk k hk (by have := F1.out; omega)).mono ?_
      rintro e w2 ⟨v, rfl, hf⟩
      obtain ⟨A, c, rfl, -⟩ := own_form hf.own
      refine ⟨A, c, by rw [F1.out], ?_, hf.bel⟩
      exact own_rd hf.own)
    have HSM := Lib.hid (show ∀ w' A A' c c', RB w' w'.heap.size A k → RB w' w'.heap.size A' k → Calls Try.prog 21 #[.slice A M1 c, .slice A' M1 c'] w' fun e w2 => e = .returned (.bool true) ∧ Below w'.heap.size w' w2 from fun w' A A' c c' h1 h2 => by
      have := same_yes A A' c c' k w' h1 h2 (by rw [F1.out]; unfold maxLen; omega)
      rw [F1.out] at this
      exact this)
    have i1 : ¬ (M1 : Int) < 16 := by omega
    obtain ⟨N, hN, hN1, hN2⟩ : ∃ N, (N = n ∨ N = 8) ∧ N ≤ n ∧ N ≤ 8 := ⟨min n 8, by omega, by omega, by omega⟩
    have HN := Lib.hid hN
    clear hN hlt
    go_enter Try.func5, Try.ntmps5
    go_wp2_with fail
    refine (HC1.out _).mono ?_
    rintro e w1 ⟨rfl, rfl⟩
    go_wp2_with fail
    refine (HNW.out _ M0.out).mono ?_
    rintro e w1 ⟨g, gK, rfl, m⟩
    have Mq := Lib.hid m
    clear m HNW HC1
    go_wp2_with fail
    refine (HMA.out _ _ _ _ _ _ Mq.out).mono ?_
    rintro e w2 ⟨gK', rfl, hk, hb⟩
    have Mq := Lib.hid (Mq.out.below hb)
    have HK := Lib.hid hk
    clear hb hk
    go_wp2_with fail
    refine (HKB.out _ _ HK.out).mono ?_
    rintro e w3 ⟨A3, c3, rfl, hr, hb⟩
    have Mq := Lib.hid (Mq.out.below hb)
    have HR3 := Lib.hid hr
    clear hb hr HK
    go_wp2_with fail
    refine (HSM.out _ _ _ _ _ HR3.out (HR1.out _ Mq.out.bel)).mono ?_
    rintro e w4 ⟨rfl, hb⟩
    have Mq := Lib.hid (Mq.out.below hb)
    clear hb HKB HSM HR3
    go_wp2_with fail
    go_loopg [10, 9] N (fun gg s10 s9 wr => ∃ kk : Nat, kk + gg = N ∧ s10 = .int .i64 kk ∧ IsL W g gK k kk s9 wr)
    case atStart => exact ⟨0, by omega, rfl, [], Nat.le_refl _, by
      obtain ⟨A, c, Ak, ck, m⟩ := Mq.out
      exact ⟨A, c, Ak, ck, (m.nilrow 30 4).perm (List.Perm.refl _) ((List.Perm.swap _ _ _).trans (List.Perm.cons _ (List.Perm.swap _ _ _)))⟩⟩
    case round =>
      obtain ⟨kk, hkk, rfl, cs, hcs, hm⟩ := hrel
      obtain ⟨q, hq⟩ : ∃ q, cs.length = q := ⟨_, rfl⟩
      have HQ := Lib.hid hq
      obtain ⟨A9, c9, rfl⟩ := hm.row9
      rw [hq] at hcs hm ⊢
      by_cases hlt : kk < N
      · obtain ⟨⟨id, ex, x⟩, hf⟩ : ∃ f, fs[kk]? = some f := ⟨_, List.getElem?_eq_getElem (by rw [HFN.out]; omega)⟩
        have hxo : x.ok .i64 W := HFO.out _ (List.mem_of_getElem? hf)
        obtain ⟨b, o, rfl, hbw, hcell⟩ := HFS.out.2 (by rw [HFN.out]; omega)
        have hget := f3s_get fs kk _ hf
        have q0 := hcell _ _ (hget 0 _ rfl)
        have q1 := hcell _ _ (hget 1 _ rfl)
        have q2 := hcell _ _ (hget 2 _ rfl)
        rw [← Nat.add_assoc] at q0 q1 q2
        rw [Nat.add_zero] at q0
        have HCE := Lib.hid (show ∀ w', Below W.heap.size W w' → w'.cell? ⟨b, o + kk * 3, none⟩ = some (.int .i64 id) ∧ w'.cell? ⟨b, o + kk * 3 + 1, none⟩ = some (.int .i64 ex) ∧ w'.cell? ⟨b, o + kk * 3 + 2, none⟩ = some (.slice x.A x.zs.length x.c) from fun w' hb =>
          ⟨(hb.cell (p := ⟨b, o + kk * 3, none⟩) hbw).trans q0, (hb.cell (p := ⟨b, o + kk * 3 + 1, none⟩) hbw).trans q1, (hb.cell (p := ⟨b, o + kk * 3 + 2, none⟩) hbw).trans q2⟩)
        obtain ⟨lz, hlz⟩ : ∃ lz, x.zs.take 10 = lz := ⟨_, rfl⟩
        have hrl : Rd W W.heap.size 1 x.A lz.length (lz.map (.int .i64)) := by
          rw [← hlz]
          refine ⟨by simp, fun hn => ?_⟩
          obtain ⟨b', o', e', hb', hc'⟩ := hxo.rd.2 (by rw [List.length_take] at hn; omega)
          refine ⟨b', o', e', hb', fun j u hu => hc' j u ?_⟩
          rw [List.map_take, List.getElem?_take] at hu
          split at hu
          · exact hu
          · cases hu
        have HRL := Lib.hid (fun w' (hb : Below W.heap.size W w') => (hrl.below hb).more hb.size)
        have hx1 := hxo.le
        have hx2 := hxo.cap
        unfold maxLen at hx2
        obtain ⟨Z, hZ⟩ : ∃ Z, x.zs.length = Z := ⟨_, rfl⟩
        obtain ⟨L, hL⟩ : ∃ L, lz.length = L := ⟨_, rfl⟩
        have hLZ : L = min 10 Z := by rw [← hL, ← hlz, List.length_take, hZ]
        obtain ⟨xA, xc, xz⟩ := x
        simp only [hZ] at hx1 HCE
        simp only at hx1 hx2 HRL HCE
        simp only [hL] at HRL
        have hmin : min (Z : Int) 10 = (L : Int) := by omega
        have j0 : L ≤ 10 := by omega
        have j1 : (L : Int) ≤ xc := by omega
        have j2 : (0 : Int) ≤ L := by omega
        have j3 : (kk : Int) < n := by omega
        have j4 : (0 : Int) ≤ kk := by omega
        have j5 : (kk : Int) < 8 := by omega
        have HL := Lib.hid hL
        have Mq := Lib.hid hm
        have K0 := Lib.hid (HCE.out _ (Mq.out.below (Below.refl _ _).drew).bel)
        clear hf hxo hcell hget q0 q1 q2 hlz hrl hL hZ hLZ hm hx1 hx2 hq
        go_upto_region 11 with fail
        refine wp_region_held_drew (S := fun w' => w'.cell? ⟨b, o + kk * 3 + 2, none⟩ = some (.slice xA Z xc)) (by kernel_rfl) ?_ (fun hHeld => ?_)
        · exact K0.out.2.2
        generalize hw9 : World.drew _ = w9 at hHeld ⊢
        have Mq := Lib.hid ((Mq.out.below (Below.refl _ _).drew).toV hw9 rfl)
        clear hw9
        refine wpAnyH_take (i := 0) (v := ?_) rfl (by kernel_rfl) (by kernel_rfl) (by kernel_rfl) (fun _ _ _ h => h) (Or.inl ⟨by rfl, ?_⟩) (by assumption) ?_
        rotate_left
        · intro w hSw; (try dsimp only at hSw); go_split_ands; go_simp; with_reducible rfl
        change wpAnyH _ _ _ _ _ _ _ (Act.put _ (some 56) _) _
        simp only [Act.put, List.setIfInBounds_toArray, List.set_cons_zero, List.set_cons_succ, Array.toArray_toList]
        refine wpAnyH_take (i := 1) (v := ?_) rfl (by kernel_rfl) (by kernel_rfl) (by kernel_rfl) (fun _ _ _ h => h) (Or.inl ⟨by rfl, ?_⟩) (by assumption) ?_
        rotate_left
        · intro w hSw; (try dsimp only at hSw); go_split_ands; go_simp; with_reducible rfl
        change wpAnyH _ _ _ _ _ _ _ (Act.put _ (some 57) _) _
        simp only [Act.put, List.setIfInBounds_toArray, List.set_cons_zero, List.set_cons_succ, Array.toArray_toList]
        refine wpAnyH_take (i := 2) (v := ?_) rfl (by kernel_rfl) (by kernel_rfl) (by kernel_rfl) (fun _ _ _ h => h) (Or.inl ⟨by rfl, ?_⟩) (by assumption) ?_
        rotate_left
        · intro w hSw; (try dsimp only at hSw); go_split_ands; go_simp; with_reducible rfl
        change wpAnyH _ _ _ _ _ _ _ (Act.put _ (some 58) _) _
        simp only [Act.put, List.setIfInBounds_toArray, List.set_cons_zero, List.set_cons_succ, Array.toArray_toList]
        refine wpAnyH_take (i := 3) (v := ?_) rfl (by kernel_rfl) (by kernel_rfl) (by kernel_rfl) (fun _ _ _ h => h) (Or.inl ⟨by rfl, ?_⟩) (by assumption) ?_
        rotate_left
        · intro w hSw; (try dsimp only at hSw); go_split_ands; go_simp; with_reducible rfl
        change wpAnyH _ _ _ _ _ _ _ (Act.put _ (some 59) _) _
        simp only [Act.put, List.setIfInBounds_toArray, List.set_cons_zero, List.set_cons_succ, Array.toArray_toList]
        refine wpAnyH_take (i := 4) (v := ?_) rfl (by kernel_rfl) (by kernel_rfl) (by kernel_rfl) (fun _ _ _ h => h) (Or.inl ⟨by rfl, ?_⟩) (by assumption) ?_
        rotate_left
        · intro w hSw; (try dsimp only at hSw); go_split_ands; go_simp; with_reducible rfl
        change wpAnyH _ _ _ _ _ _ _ (Act.put _ (some 60) _) _
        simp only [Act.put, List.setIfInBounds_toArray, List.set_cons_zero, List.set_cons_succ, Array.toArray_toList]
        refine wpAnyH_take (i := 5) (v := ?_) rfl (by kernel_rfl) (by kernel_rfl) (by kernel_rfl) (fun _ _ _ h => h) (Or.inl ⟨by rfl, ?_⟩) (by assumption) ?_
        rotate_left
        · intro w hSw; (try dsimp only at hSw); go_split_ands; go_simp; with_reducible rfl
        change wpAnyH _ _ _ _ _ _ _ (Act.put _ (some 61) _) _
        simp only [Act.put, List.setIfInBounds_toArray, List.set_cons_zero, List.set_cons_succ, Array.toArray_toList]
        refine wpAnyH_take (i := 6) (v := ?_) rfl (by kernel_rfl) (by kernel_rfl) (by kernel_rfl) (fun _ _ _ h => h) (Or.inl ⟨by rfl, ?_⟩) (by assumption) ?_
        rotate_left
        · intro w hSw; (try dsimp only at hSw); go_split_ands; go_simp; with_reducible rfl
        change wpAnyH _ _ _ _ _ _ _ (Act.put _ (some 62) _) _
        simp only [Act.put, List.setIfInBounds_toArray, List.set_cons_zero, List.set_cons_succ, Array.toArray_toList]
        refine wpAnyH_take (i := 7) (v := ?_) rfl (by kernel_rfl) (by kernel_rfl) (by kernel_rfl) (fun _ _ _ h => h) (Or.inl ⟨by rfl, ?_⟩) (by assumption) ?_
        rotate_left
        · intro w hSw; (try dsimp only at hSw); go_split_ands; go_simp; with_reducible rfl
        change wpAnyH _ _ _ _ _ _ _ (Act.put _ (some 63) _) _
        simp only [Act.put, List.setIfInBounds_toArray, List.set_cons_zero, List.set_cons_succ, Array.toArray_toList]
        refine wpAnyH_take (i := 8) (v := ?_) rfl (by kernel_rfl) (by kernel_rfl) (by kernel_rfl) (fun _ _ _ h => h) (Or.inl ⟨by rfl, ?_⟩) (by assumption) ?_
        rotate_left
        · intro w hSw; (try dsimp only at hSw); go_split_ands; go_simp; with_reducible rfl
        change wpAnyH _ _ _ _ _ _ _ (Act.put _ (some 64) _) _
        simp only [Act.put, List.setIfInBounds_toArray, List.set_cons_zero, List.set_cons_succ, Array.toArray_toList]
        refine wpAnyH_take (i := 9) (v := ?_) rfl (by kernel_rfl) (by kernel_rfl) (by kernel_rfl) (fun _ _ _ h => h) (Or.inl ⟨by rfl, ?_⟩) (by assumption) ?_
        rotate_left
        · intro w hSw; (try dsimp only at hSw); go_split_ands; go_simp; with_reducible rfl
        change wpAnyH _ _ _ _ _ _ _ (Act.put _ (some 65) _) _
        simp only [Act.put, List.setIfInBounds_toArray, List.set_cons_zero, List.set_cons_succ, Array.toArray_toList]
        refine wpAnyH_take (i := 10) (v := ?_) rfl (by kernel_rfl) (by kernel_rfl) (by kernel_rfl) (fun _ _ _ h => h) (Or.inl ⟨by rfl, ?_⟩) (by assumption) ?_
        rotate_left
        · intro w hSw; (try dsimp only at hSw); go_split_ands; go_simp; with_reducible rfl
        change wpAnyH _ _ _ _ _ _ _ (Act.put _ (some 66) _) _
        simp only [Act.put, List.setIfInBounds_toArray, List.set_cons_zero, List.set_cons_succ, Array.toArray_toList]
        refine wpAnyH_take (i := 11) (v := ?_) rfl (by kernel_rfl) (by kernel_rfl) (by kernel_rfl) (fun _ _ _ h => h) (Or.inl ⟨by rfl, ?_⟩) (by assumption) ?_
        rotate_left
        · intro w hSw; (try dsimp only at hSw); go_split_ands; go_simp; with_reducible rfl
        change wpAnyH _ _ _ _ _ _ _ (Act.put _ (some 67) _) _
        simp only [Act.put, List.setIfInBounds_toArray, List.set_cons_zero, List.set_cons_succ, Array.toArray_toList]
        refine wpAnyH_take (i := 12) (v := ?_) rfl (by kernel_rfl) (by kernel_rfl) (by kernel_rfl) (fun _ _ _ h => h) (Or.inl ⟨by rfl, ?_⟩) (by assumption) ?_
        rotate_left
        · intro w hSw; (try dsimp only at hSw); go_split_ands; go_simp; with_reducible rfl
        change wpAnyH _ _ _ _ _ _ _ (Act.put _ (some 68) _) _
        simp only [Act.put, List.setIfInBounds_toArray, List.set_cons_zero, List.set_cons_succ, Array.toArray_toList]
        refine wpAnyH_take (i := 13) (v := ?_) rfl (by kernel_rfl) (by kernel_rfl) (by kernel_rfl) (fun _ _ _ h => h) (Or.inl ⟨by rfl, ?_⟩) (by assumption) ?_
        rotate_left
        · intro w hSw; (try dsimp only at hSw); go_split_ands; go_simp; with_reducible rfl
        change wpAnyH _ _ _ _ _ _ _ (Act.put _ (some 11) _) _
        simp only [Act.put, List.setIfInBounds_toArray, List.set_cons_zero, List.set_cons_succ, Array.toArray_toList]
        refine wpAnyH_done (by kernel_rfl) ?_ _
        clear hHeld K0 hmin j1
        obtain ⟨M, hM⟩ : ∃ M, mskI lz = M := ⟨_, rfl⟩
        have hrm := fun w' (hb : Below W.heap.size W w') => refmask_any lz xA xc w' (by rw [HL.out]; exact HRL.out w' hb) (by rw [HL.out]; omega)
        simp only [HL.out, hM] at hrm
        have HRM := Lib.hid hrm
        have HMM := Lib.hid hM
        have j6 : IntKind.i64.wrap ((q : Int) + 1) = (q : Int) + 1 := IntWalk.i64_in _ (by omega)
        clear hrm hM
        have K0 := Lib.hid (HCE.out _ (Mq.out.below (Below.refl _ _).drew).bel)
        go_upto_region 12 with fail
        go_cut [12] (fun s12 wr => IsC W (allRow (.slice A9 q c9) q (c4s cs)) g gK k cs #[.int .i64 id, .int .i64 M, .int .i64 ex, .int .i64 ((q : Int) + 1)] s12 wr)
        case first =>
          refine wp_region_held_drew (S := fun w' => w'.cell? ⟨b, o + kk * 3, none⟩ = some (.int .i64 id) ∧ w'.cell? ⟨b, o + kk * 3 + 1, none⟩ = some (.int .i64 ex)) (by kernel_rfl) ?_ (fun hHeld => ?_)
          · exact ⟨K0.out.1, K0.out.2.1⟩
          generalize hw9 : World.drew _ = w9 at hHeld ⊢
          have Mq := Lib.hid ((Mq.out.below (Below.refl _ _).drew).toV hw9 rfl)
          clear hw9
          refine wpAnyH_take (i := 0) (v := ?_) rfl (by kernel_rfl) (by kernel_rfl) (by kernel_rfl) (fun _ _ _ h => h) (Or.inl ⟨by rfl, ?_⟩) (by assumption) ?_
          rotate_left
          · intro w hSw; (try dsimp only at hSw); go_split_ands; go_simp; with_reducible rfl
          change wpAnyH _ _ _ _ _ _ _ (Act.put _ (some 69) _) _
          simp only [Act.put, List.setIfInBounds_toArray, List.set_cons_zero, List.set_cons_succ, Array.toArray_toList]
          refine wpAnyH_take (i := 1) (v := ?_) rfl (by kernel_rfl) (by kernel_rfl) (by kernel_rfl) (fun _ _ _ h => h) (Or.inl ⟨by rfl, ?_⟩) (by assumption) ?_
          rotate_left
          · intro w hSw; (try dsimp only at hSw); go_split_ands; go_simp; with_reducible rfl
          change wpAnyH _ _ _ _ _ _ _ (Act.put _ (some 70) _) _
          simp only [Act.put, List.setIfInBounds_toArray, List.set_cons_zero, List.set_cons_succ, Array.toArray_toList]
          refine wpAnyH_take (i := 2) (v := ?_) rfl (by kernel_rfl) (by kernel_rfl) (by kernel_rfl) (fun _ _ _ h => h) (Or.inl ⟨by rfl, ?_⟩) (by assumption) ?_
          rotate_left
          · intro w hSw; (try dsimp only at hSw); go_split_ands; go_simp; with_reducible rfl
          change wpAnyH _ _ _ _ _ _ _ (Act.put _ (some 71) _) _
          simp only [Act.put, List.setIfInBounds_toArray, List.set_cons_zero, List.set_cons_succ, Array.toArray_toList]
          refine wpAnyH_take (i := 3) (v := ?_) rfl (by kernel_rfl) (by kernel_rfl) (by kernel_rfl) (fun _ _ _ h => h) (Or.inl ⟨by rfl, ?_⟩) (by assumption) ?_
          rotate_left
          · intro w hSw; (try dsimp only at hSw); go_split_ands; go_simp; with_reducible rfl
          change wpAnyH _ _ _ _ _ _ _ (Act.put _ (some 72) _) _
          simp only [Act.put, List.setIfInBounds_toArray, List.set_cons_zero, List.set_cons_succ, Array.toArray_toList]
          refine wpAnyH_take (i := 4) (v := ?_) rfl (by kernel_rfl) (by kernel_rfl) (by kernel_rfl) (fun _ _ _ h => h) (Or.inl ⟨by rfl, ?_⟩) (by assumption) ?_
          rotate_left
          · intro w hSw; (try dsimp only at hSw); go_split_ands; go_simp; with_reducible rfl
          change wpAnyH _ _ _ _ _ _ _ (Act.put _ (some 73) _) _
          simp only [Act.put, List.setIfInBounds_toArray, List.set_cons_zero, List.set_cons_succ, Array.toArray_toList]
          refine wpAnyH_take (i := 5) (v := ?_) rfl (by kernel_rfl) (by kernel_rfl) (by kernel_rfl) (fun _ _ _ h => h) (Or.inl ⟨by rfl, ?_⟩) (by assumption) ?_
          rotate_left
          · intro w hSw; (try dsimp only at hSw); go_split_ands; go_simp; with_reducible rfl
          change wpAnyH _ _ _ _ _ _ _ (Act.put _ (some 74) _) _
          simp only [Act.put, List.setIfInBounds_toArray, List.set_cons_zero, List.set_cons_succ, Array.toArray_toList]
          refine wpAnyH_take (i := 7) (v := ?_) rfl (by kernel_rfl) (by kernel_rfl) (by kernel_rfl) (fun _ _ _ h => h) (Or.inl ⟨by rfl, ?_⟩) (by assumption) ?_
          rotate_left
          · intro w hSw; (try dsimp only at hSw); go_split_ands; go_simp; with_reducible rfl
          change wpAnyH _ _ _ _ _ _ _ (Act.put _ (some 76) _) _
          simp only [Act.put, List.setIfInBounds_toArray, List.set_cons_zero, List.set_cons_succ, Array.toArray_toList]
          refine wpAnyH_take (i := 8) (v := ?_) rfl (by kernel_rfl) (by kernel_rfl) (by kernel_rfl) (fun _ _ _ h => h) (Or.inl ⟨by rfl, ?_⟩) (by assumption) ?_
          rotate_left
          · intro w hSw; (try dsimp only at hSw); go_split_ands; go_simp; with_reducible rfl
          change wpAnyH _ _ _ _ _ _ _ (Act.put _ (some 77) _) _
          simp only [Act.put, List.setIfInBounds_toArray, List.set_cons_zero, List.set_cons_succ, Array.toArray_toList]
          refine wpAnyH_take (i := 9) (v := ?_) rfl (by kernel_rfl) (by kernel_rfl) (by kernel_rfl) (fun _ _ _ h => h) (Or.inl ⟨by rfl, ?_⟩) (by assumption) ?_
          rotate_left
          · intro w hSw; (try dsimp only at hSw); go_split_ands; go_simp; with_reducible rfl
          change wpAnyH _ _ _ _ _ _ _ (Act.put _ (some 78) _) _
          simp only [Act.put, List.setIfInBounds_toArray, List.set_cons_zero, List.set_cons_succ, Array.toArray_toList]
          refine wpAnyH_take (i := 10) (v := ?_) rfl (by kernel_rfl) (by kernel_rfl) (by kernel_rfl) (fun _ _ _ h => h) (Or.inl ⟨by rfl, ?_⟩) (by assumption) ?_
          rotate_left
          · intro w hSw; (try dsimp only at hSw); go_split_ands; go_simp; with_reducible rfl
          change wpAnyH _ _ _ _ _ _ _ (Act.put _ (some 79) _) _
          simp only [Act.put, List.setIfInBounds_toArray, List.set_cons_zero, List.set_cons_succ, Array.toArray_toList]
          refine wpAnyH_take (i := 11) (v := ?_) rfl (by kernel_rfl) (by kernel_rfl) (by kernel_rfl) (fun _ _ _ h => h) (Or.inl ⟨by rfl, ?_⟩) (by assumption) ?_
          rotate_left
          · intro w hSw; (try dsimp only at hSw); go_split_ands; go_simp; with_reducible rfl
          change wpAnyH _ _ _ _ _ _ _ (Act.put _ (some 80) _) _
          simp only [Act.put, List.setIfInBounds_toArray, List.set_cons_zero, List.set_cons_succ, Array.toArray_toList]
          refine wpAnyH_take (i := 12) (v := ?_) rfl (by kernel_rfl) (by kernel_rfl) (by kernel_rfl) (fun _ _ _ h => h) (Or.inl ⟨by rfl, ?_⟩) (by assumption) ?_
          rotate_left
          · intro w hSw; (try dsimp only at hSw); go_split_ands; go_simp; with_reducible rfl
          change wpAnyH _ _ _ _ _ _ _ (Act.put _ (some 81) _) _
          simp only [Act.put, List.setIfInBounds_toArray, List.set_cons_zero, List.set_cons_succ, Array.toArray_toList]
          refine wpAnyH_take (i := 13) (v := ?_) rfl (by kernel_rfl) (by kernel_rfl) (by kernel_rfl) (fun _ _ _ h => h) (Or.inl ⟨by rfl, ?_⟩) (by assumption) ?_
          rotate_left
          · intro w hSw; (try dsimp only at hSw); go_split_ands; go_simp; with_reducible rfl
          change wpAnyH _ _ _ _ _ _ _ (Act.put _ (some 82) _) _
          simp only [Act.put, List.setIfInBounds_toArray, List.set_cons_zero, List.set_cons_succ, Array.toArray_toList]
          refine wpAnyH_take (i := 14) (v := ?_) rfl (by kernel_rfl) (by kernel_rfl) (by kernel_rfl) (fun _ _ _ h => h) (Or.inl ⟨by rfl, ?_⟩) (by assumption) ?_
          rotate_left
          · intro w hSw; (try dsimp only at hSw); go_split_ands; go_simp; with_reducible rfl
          change wpAnyH _ _ _ _ _ _ _ (Act.put _ (some 83) _) _
          simp only [Act.put, List.setIfInBounds_toArray, List.set_cons_zero, List.set_cons_succ, Array.toArray_toList]
          refine wpAnyH_ready (rs := [6, 16]) (by kernel_rfl) (by simp) ?_
          refine (AllReadyH.cons rfl (fun K hK => ?_) (AllReadyH.cons rfl (fun K hK => ?_) AllReadyH.nil))
          · skip
            go_simp
            (with_reducible refine (HRM.out _ Mq.out.bel).mono ?_); rintro e wq ⟨rfl, rfl⟩
            go_wp2_with fail
            refine hK.out _ _ (by exact ⟨(HCE.out _ Mq.out.bel).1, (HCE.out _ Mq.out.bel).2.1⟩) (fun hHeld => ?_)
            clear hK K
            refine wpAnyH_take (i := 15) (v := ?_) rfl (by kernel_rfl) (by kernel_rfl) (by kernel_rfl) (fun _ _ _ h => h) (Or.inl ⟨by rfl, ?_⟩) (by assumption) ?_
            rotate_left
            · intro w hSw; (try dsimp only at hSw); go_split_ands; go_simp; with_reducible rfl
            change wpAnyH _ _ _ _ _ _ _ (Act.put _ (some 84) _) _
            simp only [Act.put, List.setIfInBounds_toArray, List.set_cons_zero, List.set_cons_succ, Array.toArray_toList]
            refine wpAnyH_ready (rs := [16]) (by kernel_rfl) (by simp) ?_
            refine (AllReadyH.cons rfl (fun K hK => ?_) AllReadyH.nil)
            go_simp; generalize hwq : World.alloc _ _ = wq2; obtain ⟨g12, hg12, mq⟩ := Mq.out.newX hwq; rw [hg12]; have Mq := Lib.hid mq; clear hwq hg12 mq
            refine hK.out _ _ (by exact ⟨(HCE.out _ Mq.out.bel).1, (HCE.out _ Mq.out.bel).2.1⟩) (fun hHeld => ?_)
            clear hK K
            refine wpAnyH_ready (rs := [17]) (by kernel_rfl) (by simp) ?_
            refine (AllReadyH.cons rfl (fun K hK => ?_) AllReadyH.nil)
            refine step_store_row rfl _ _ _ rfl g12 #[.int .i64 id, .int .i64 M, .int .i64 ex, .int .i64 ((q : Int) + 1)] rfl rfl 23 _ (Mq.out.blk (List.mem_cons_self ..)) (info_rc4 _ _ _ _) rfl (all4 _ _ _ _) ?_; have Mq := Lib.hid (Mq.out.setRow #[.int .i64 id, .int .i64 M, .int .i64 ex, .int .i64 ((q : Int) + 1)])
            refine hK.out _ _ (by exact ⟨(HCE.out _ Mq.out.bel).1, (HCE.out _ Mq.out.bel).2.1⟩) (fun hHeld => ?_)
            clear hK K
            refine wpAnyH_done (by kernel_rfl) ?_ _
            go_wp2_with fail
            go_meet
            exact ⟨_, rfl, Mq.out⟩
          · skip
            go_simp; generalize hwq : World.alloc _ _ = wq2; obtain ⟨g12, hg12, mq⟩ := Mq.out.newX hwq; rw [hg12]; have Mq := Lib.hid mq; clear hwq hg12 mq
            refine hK.out _ _ (by exact ⟨(HCE.out _ Mq.out.bel).1, (HCE.out _ Mq.out.bel).2.1⟩) (fun hHeld => ?_)
            clear hK K
            refine wpAnyH_ready (rs := [6]) (by kernel_rfl) (by simp) ?_
            refine (AllReadyH.cons rfl (fun K hK => ?_) AllReadyH.nil)
            go_simp
            (with_reducible refine (HRM.out _ Mq.out.bel).mono ?_); rintro e wq ⟨rfl, rfl⟩
            go_wp2_with fail
            refine hK.out _ _ (by exact ⟨(HCE.out _ Mq.out.bel).1, (HCE.out _ Mq.out.bel).2.1⟩) (fun hHeld => ?_)
            clear hK K
            refine wpAnyH_take (i := 15) (v := ?_) rfl (by kernel_rfl) (by kernel_rfl) (by kernel_rfl) (fun _ _ _ h => h) (Or.inl ⟨by rfl, ?_⟩) (by assumption) ?_
            rotate_left
            · intro w hSw; (try dsimp only at hSw); go_split_ands; go_simp; with_reducible rfl
            change wpAnyH _ _ _ _ _ _ _ (Act.put _ (some 84) _) _
            simp only [Act.put, List.setIfInBounds_toArray, List.set_cons_zero, List.set_cons_succ, Array.toArray_toList]
            refine wpAnyH_ready (rs := [17]) (by kernel_rfl) (by simp) ?_
            refine (AllReadyH.cons rfl (fun K hK => ?_) AllReadyH.nil)
            refine step_store_row rfl _ _ _ rfl g12 #[.int .i64 id, .int .i64 M, .int .i64 ex, .int .i64 ((q : Int) + 1)] rfl rfl 23 _ (Mq.out.blk (List.mem_cons_self ..)) (info_rc4 _ _ _ _) rfl (all4 _ _ _ _) ?_; have Mq := Lib.hid (Mq.out.setRow #[.int .i64 id, .int .i64 M, .int .i64 ex, .int .i64 ((q : Int) + 1)])
            refine hK.out _ _ (by exact ⟨(HCE.out _ Mq.out.bel).1, (HCE.out _ Mq.out.bel).2.1⟩) (fun hHeld => ?_)
            clear hK K
            refine wpAnyH_done (by kernel_rfl) ?_ _
            go_wp2_with fail
            go_meet
            exact ⟨_, rfl, Mq.out⟩
        case rest =>
          clear K0 Mq HRM
          obtain ⟨g12, rfl, mq⟩ := hcut
          have Mq := Lib.hid mq
          clear mq
          obtain ⟨tk, e0, cs2, hIs, hTk⟩ : ∃ (tk : Array Value) (e0 : Int) (cs2 : List C4), (∀ w' bl, MtX W bl [allRow (.slice A9 q c9) q (c4s cs)] g gK k cs w' → Calls Try.prog 38 #[.pointer (some ⟨g, 0, none⟩), .int .i64 id, .int .i64 ex, .slice xA L xc] w' fun e w2 => e = .returned (.tuple #[.agg tk, .int .i64 e0]) ∧ MtX W bl [allRow (.slice A9 q c9) q (c4s cs)] g gK k cs2 w2) ∧
              ((¬ clOk id M ex ((q : Int) + 1) ∧ tk = Y36 ∧ e0 = 10 ∧ cs2 = cs) ∨ (clOk id M ex ((q : Int) + 1) ∧ ∃ S, S.length = 32 ∧ secB k id M ex ((q : Int) + 1) = S ∧ tk = tkc id M ex ((q : Int) + 1) S ∧ e0 = 0 ∧ cs2 = cs ++ [(id, M, ex, (q : Int) + 1)])) := by
            by_cases hcl : rolesOk lz = true ∧ clOk id (maskN lz : Nat) ex ((cs.length : Int) + 1)
            · have hMn : (maskN lz : Int) = M := by rw [← HMM.out]; unfold mskI; rw [if_pos hcl.1]
              have hq2 := hcl.2
              rw [hMn, HQ.out] at hq2
              refine ⟨_, _, _, fun w' bl hm => ?_, .inr ⟨hq2, _, secB_len k id M ex ((q : Int) + 1), rfl, rfl, rfl, rfl⟩⟩
              have := issue_ok W w' bl _ g gK k (by have := F1.out; omega) cs hm (by rw [HQ.out]; omega) id ex lz xA xc (by rw [HL.out]; exact HRL.out w' hm.bel) (by rw [HL.out]; omega) hcl.1 hcl.2
              rw [hMn, HQ.out, HL.out] at this
              exact this
            · refine ⟨Y36, 10, cs, fun w' bl hm => ?_, .inl ⟨?_, rfl, rfl, rfl⟩⟩
              · have := issue_bad W w' bl _ g gK k cs hm (by rw [HQ.out]; omega) id ex lz xA xc (by rw [HL.out]; exact HRL.out w' hm.bel) (by rw [HL.out]; omega) hcl
                rw [HL.out] at this
                exact this
              · intro hc
                cases hro : rolesOk lz
                · have h0 := hc.2.1.1
                  rw [← HMM.out] at h0
                  unfold mskI at h0
                  rw [hro, if_neg (by decide)] at h0
                  omega
                · refine hcl ⟨hro, ?_⟩
                  have hMn : (maskN lz : Int) = M := by rw [← HMM.out]; unfold mskI; rw [if_pos hro]
                  rw [hMn, HQ.out]
                  exact hc
          have HIS := Lib.hid hIs
          have HTK := Lib.hid hTk
          have HI := Lib.hid (show (Try.prog.info? 78).map (·.size) = some tk.size ∧ Y36.size = tk.size ∧ tk.all (·.oneCell') = true from by
            rcases hTk with ⟨_, rfl, _⟩ | ⟨_, S, hS, _, rfl, _⟩
            · exact ⟨info_y36, rfl, y36_one⟩
            · exact ⟨info_tok hS, y36_k hS, tkc_one _ _ _ _ _⟩)
          clear hIs hTk
          have K0 := Lib.hid (HCE.out _ (Mq.out.below (Below.refl _ _).drew).bel)
          go_upto_region 13 with fail
          go_cut [13, 14] (fun s13 s14 wr => IsT W (allRow (.slice A9 q c9) q (c4s cs)) g gK k cs2 g12 #[.int .i64 id, .int .i64 M, .int .i64 ex, .int .i64 ((q : Int) + 1)] tk e0 s13 s14 wr)
          case first =>
            refine wp_region_held_drew (S := fun w' => w'.cell? ⟨b, o + kk * 3, none⟩ = some (.int .i64 id) ∧ w'.cell? ⟨b, o + kk * 3 + 1, none⟩ = some (.int .i64 ex)) (by kernel_rfl) ?_ (fun hHeld => ?_)
            · exact ⟨K0.out.1, K0.out.2.1⟩
            generalize hw9 : World.drew _ = w9 at hHeld ⊢
            have Mq := Lib.hid ((Mq.out.below (Below.refl _ _).drew).toV hw9 rfl)
            clear hw9
            refine wpAnyH_take (i := 0) (v := ?_) rfl (by kernel_rfl) (by kernel_rfl) (by kernel_rfl) (fun _ _ _ h => h) (Or.inl ⟨by rfl, ?_⟩) (by assumption) ?_
            rotate_left
            · intro w hSw; (try dsimp only at hSw); go_split_ands; go_simp; with_reducible rfl
            change wpAnyH _ _ _ _ _ _ _ (Act.put _ (some 86) _) _
            simp only [Act.put, List.setIfInBounds_toArray, List.set_cons_zero, List.set_cons_succ, Array.toArray_toList]
            refine wpAnyH_take (i := 1) (v := ?_) rfl (by kernel_rfl) (by kernel_rfl) (by kernel_rfl) (fun _ _ _ h => h) (Or.inl ⟨by rfl, ?_⟩) (by assumption) ?_
            rotate_left
            · intro w hSw; (try dsimp only at hSw); go_split_ands; go_simp; with_reducible rfl
            change wpAnyH _ _ _ _ _ _ _ (Act.put _ (some 87) _) _
            simp only [Act.put, List.setIfInBounds_toArray, List.set_cons_zero, List.set_cons_succ, Array.toArray_toList]
            refine wpAnyH_take (i := 2) (v := ?_) rfl (by kernel_rfl) (by kernel_rfl) (by kernel_rfl) (fun _ _ _ h => h) (Or.inl ⟨by rfl, ?_⟩) (by assumption) ?_
            rotate_left
            · intro w hSw; (try dsimp only at hSw); go_split_ands; go_simp; with_reducible rfl
            change wpAnyH _ _ _ _ _ _ _ (Act.put _ (some 88) _) _
            simp only [Act.put, List.setIfInBounds_toArray, List.set_cons_zero, List.set_cons_succ, Array.toArray_toList]
            refine wpAnyH_take (i := 3) (v := ?_) rfl (by kernel_rfl) (by kernel_rfl) (by kernel_rfl) (fun _ _ _ h => h) (Or.inl ⟨by rfl, ?_⟩) (by assumption) ?_
            rotate_left
            · intro w hSw; (try dsimp only at hSw); go_split_ands; go_simp; with_reducible rfl
            change wpAnyH _ _ _ _ _ _ _ (Act.put _ (some 89) _) _
            simp only [Act.put, List.setIfInBounds_toArray, List.set_cons_zero, List.set_cons_succ, Array.toArray_toList]
            refine wpAnyH_take (i := 4) (v := ?_) rfl (by kernel_rfl) (by kernel_rfl) (by kernel_rfl) (fun _ _ _ h => h) (Or.inl ⟨by rfl, ?_⟩) (by assumption) ?_
            rotate_left
            · intro w hSw; (try dsimp only at hSw); go_split_ands; go_simp; with_reducible rfl
            change wpAnyH _ _ _ _ _ _ _ (Act.put _ (some 90) _) _
            simp only [Act.put, List.setIfInBounds_toArray, List.set_cons_zero, List.set_cons_succ, Array.toArray_toList]
            refine wpAnyH_take (i := 5) (v := ?_) rfl (by kernel_rfl) (by kernel_rfl) (by kernel_rfl) (fun _ _ _ h => h) (Or.inl ⟨by rfl, ?_⟩) (by assumption) ?_
            rotate_left
            · intro w hSw; (try dsimp only at hSw); go_split_ands; go_simp; with_reducible rfl
            change wpAnyH _ _ _ _ _ _ _ (Act.put _ (some 91) _) _
            simp only [Act.put, List.setIfInBounds_toArray, List.set_cons_zero, List.set_cons_succ, Array.toArray_toList]
            refine wpAnyH_take (i := 6) (v := ?_) rfl (by kernel_rfl) (by kernel_rfl) (by kernel_rfl) (fun _ _ _ h => h) (Or.inl ⟨by rfl, ?_⟩) (by assumption) ?_
            rotate_left
            · intro w hSw; (try dsimp only at hSw); go_split_ands; go_simp; with_reducible rfl
            change wpAnyH _ _ _ _ _ _ _ (Act.put _ (some 92) _) _
            simp only [Act.put, List.setIfInBounds_toArray, List.set_cons_zero, List.set_cons_succ, Array.toArray_toList]
            refine wpAnyH_take (i := 7) (v := ?_) rfl (by kernel_rfl) (by kernel_rfl) (by kernel_rfl) (fun _ _ _ h => h) (Or.inl ⟨by rfl, ?_⟩) (by assumption) ?_
            rotate_left
            · intro w hSw; (try dsimp only at hSw); go_split_ands; go_simp; with_reducible rfl
            change wpAnyH _ _ _ _ _ _ _ (Act.put _ (some 93) _) _
            simp only [Act.put, List.setIfInBounds_toArray, List.set_cons_zero, List.set_cons_succ, Array.toArray_toList]
            refine wpAnyH_take (i := 8) (v := ?_) rfl (by kernel_rfl) (by kernel_rfl) (by kernel_rfl) (fun _ _ _ h => h) (Or.inl ⟨by rfl, ?_⟩) (by assumption) ?_
            rotate_left
            · intro w hSw; (try dsimp only at hSw); go_split_ands; go_simp; with_reducible rfl
            change wpAnyH _ _ _ _ _ _ _ (Act.put _ (some 94) _) _
            simp only [Act.put, List.setIfInBounds_toArray, List.set_cons_zero, List.set_cons_succ, Array.toArray_toList]
            refine wpAnyH_take (i := 9) (v := ?_) rfl (by kernel_rfl) (by kernel_rfl) (by kernel_rfl) (fun _ _ _ h => h) (Or.inl ⟨by rfl, ?_⟩) (by assumption) ?_
            rotate_left
            · intro w hSw; (try dsimp only at hSw); go_split_ands; go_simp; with_reducible rfl
            change wpAnyH _ _ _ _ _ _ _ (Act.put _ (some 95) _) _
            simp only [Act.put, List.setIfInBounds_toArray, List.set_cons_zero, List.set_cons_succ, Array.toArray_toList]
            refine wpAnyH_take (i := 10) (v := ?_) rfl (by kernel_rfl) (by kernel_rfl) (by kernel_rfl) (fun _ _ _ h => h) (Or.inl ⟨by rfl, ?_⟩) (by assumption) ?_
            rotate_left
            · intro w hSw; (try dsimp only at hSw); go_split_ands; go_simp; with_reducible rfl
            change wpAnyH _ _ _ _ _ _ _ (Act.put _ (some 96) _) _
            simp only [Act.put, List.setIfInBounds_toArray, List.set_cons_zero, List.set_cons_succ, Array.toArray_toList]
            refine wpAnyH_take (i := 11) (v := ?_) rfl (by kernel_rfl) (by kernel_rfl) (by kernel_rfl) (fun _ _ _ h => h) (Or.inl ⟨by rfl, ?_⟩) (by assumption) ?_
            rotate_left
            · intro w hSw; (try dsimp only at hSw); go_split_ands; go_simp; with_reducible rfl
            change wpAnyH _ _ _ _ _ _ _ (Act.put _ (some 97) _) _
            simp only [Act.put, List.setIfInBounds_toArray, List.set_cons_zero, List.set_cons_succ, Array.toArray_toList]
            refine wpAnyH_ready (rs := [12, 16]) (by kernel_rfl) (by simp) ?_
            refine (AllReadyH.cons rfl (fun K hK => ?_) (AllReadyH.cons rfl (fun K hK => ?_) AllReadyH.nil))
            · skip
              go_simp
              (with_reducible refine (HIS.out _ _ Mq.out).mono ?_); rintro e wq ⟨rfl, mq⟩; have Mq := Lib.hid mq; clear mq
              go_wp2_with fail
              refine hK.out _ _ (by exact ⟨(HCE.out _ Mq.out.bel).1, (HCE.out _ Mq.out.bel).2.1⟩) (fun hHeld => ?_)
              clear hK K
              refine wpAnyH_take (i := 13) (v := ?_) rfl (by kernel_rfl) (by kernel_rfl) (by kernel_rfl) (fun _ _ _ h => h) (Or.inl ⟨by rfl, ?_⟩) (by assumption) ?_
              rotate_left
              · intro w hSw; (try dsimp only at hSw); go_split_ands; go_simp; with_reducible rfl
              change wpAnyH _ _ _ _ _ _ _ (Act.put _ (some 85) _) _
              simp only [Act.put, List.setIfInBounds_toArray, List.set_cons_zero, List.set_cons_succ, Array.toArray_toList]
              refine wpAnyH_take (i := 14) (v := ?_) rfl (by kernel_rfl) (by kernel_rfl) (by kernel_rfl) (fun _ _ _ h => h) (Or.inl ⟨by rfl, ?_⟩) (by assumption) ?_
              rotate_left
              · intro w hSw; (try dsimp only at hSw); go_split_ands; go_simp; with_reducible rfl
              change wpAnyH _ _ _ _ _ _ _ (Act.put _ (some 99) _) _
              simp only [Act.put, List.setIfInBounds_toArray, List.set_cons_zero, List.set_cons_succ, Array.toArray_toList]
              refine wpAnyH_take (i := 15) (v := ?_) rfl (by kernel_rfl) (by kernel_rfl) (by kernel_rfl) (fun _ _ _ h => h) (Or.inl ⟨by rfl, ?_⟩) (by assumption) ?_
              rotate_left
              · intro w hSw; (try dsimp only at hSw); go_split_ands; go_simp; with_reducible rfl
              change wpAnyH _ _ _ _ _ _ _ (Act.put _ (some 100) _) _
              simp only [Act.put, List.setIfInBounds_toArray, List.set_cons_zero, List.set_cons_succ, Array.toArray_toList]
              refine wpAnyH_ready (rs := [16]) (by kernel_rfl) (by simp) ?_
              refine (AllReadyH.cons rfl (fun K hK => ?_) AllReadyH.nil)
              go_simp; generalize hwq : World.alloc _ _ = wq2; obtain ⟨g13, hg13, mq⟩ := Mq.out.newX hwq; rw [hg13]; have Mq := Lib.hid mq; clear hwq hg13 mq
              refine hK.out _ _ (by exact ⟨(HCE.out _ Mq.out.bel).1, (HCE.out _ Mq.out.bel).2.1⟩) (fun hHeld => ?_)
              clear hK K
              refine wpAnyH_ready (rs := [17]) (by kernel_rfl) (by simp) ?_
              refine (AllReadyH.cons rfl (fun K hK => ?_) AllReadyH.nil)
              refine step_store_row rfl _ _ _ rfl g13 tk rfl rfl 78 _ (Mq.out.blk (x := (g13, 78, Y36)) (List.mem_cons_self ..)) HI.out.1 HI.out.2.1 HI.out.2.2 ?_; have Mq := Lib.hid (Mq.out.setRow tk)
              refine hK.out _ _ (by exact ⟨(HCE.out _ Mq.out.bel).1, (HCE.out _ Mq.out.bel).2.1⟩) (fun hHeld => ?_)
              clear hK K
              refine wpAnyH_take (i := 18) (v := ?_) rfl (by kernel_rfl) (by kernel_rfl) (by kernel_rfl) (fun _ _ _ h => h) (Or.inl ⟨by rfl, ?_⟩) (by assumption) ?_
              rotate_left
              · intro w hSw; (try dsimp only at hSw); go_split_ands; go_simp; with_reducible rfl
              change wpAnyH _ _ _ _ _ _ _ (Act.put _ (some 14) _) _
              simp only [Act.put, List.setIfInBounds_toArray, List.set_cons_zero, List.set_cons_succ, Array.toArray_toList]
              refine wpAnyH_done (by kernel_rfl) ?_ _
              go_wp2_with fail
              go_meet
              exact ⟨_, rfl, rfl, Mq.out⟩
            · skip
              go_simp; generalize hwq : World.alloc _ _ = wq2; obtain ⟨g13, hg13, mq⟩ := Mq.out.newX hwq; rw [hg13]; have Mq := Lib.hid mq; clear hwq hg13 mq
              refine hK.out _ _ (by exact ⟨(HCE.out _ Mq.out.bel).1, (HCE.out _ Mq.out.bel).2.1⟩) (fun hHeld => ?_)
              clear hK K
              refine wpAnyH_ready (rs := [12]) (by kernel_rfl) (by simp) ?_
              refine (AllReadyH.cons rfl (fun K hK => ?_) AllReadyH.nil)
              go_simp
              (with_reducible refine (HIS.out _ _ Mq.out).mono ?_); rintro e wq ⟨rfl, mq⟩; have Mq := Lib.hid mq; clear mq
              go_wp2_with fail
              refine hK.out _ _ (by exact ⟨(HCE.out _ Mq.out.bel).1, (HCE.out _ Mq.out.bel).2.1⟩) (fun hHeld => ?_)
              clear hK K
              refine wpAnyH_take (i := 13) (v := ?_) rfl (by kernel_rfl) (by kernel_rfl) (by kernel_rfl) (fun _ _ _ h => h) (Or.inl ⟨by rfl, ?_⟩) (by assumption) ?_
              rotate_left
              · intro w hSw; (try dsimp only at hSw); go_split_ands; go_simp; with_reducible rfl
              change wpAnyH _ _ _ _ _ _ _ (Act.put _ (some 85) _) _
              simp only [Act.put, List.setIfInBounds_toArray, List.set_cons_zero, List.set_cons_succ, Array.toArray_toList]
              refine wpAnyH_take (i := 14) (v := ?_) rfl (by kernel_rfl) (by kernel_rfl) (by kernel_rfl) (fun _ _ _ h => h) (Or.inl ⟨by rfl, ?_⟩) (by assumption) ?_
              rotate_left
              · intro w hSw; (try dsimp only at hSw); go_split_ands; go_simp; with_reducible rfl
              change wpAnyH _ _ _ _ _ _ _ (Act.put _ (some 99) _) _
              simp only [Act.put, List.setIfInBounds_toArray, List.set_cons_zero, List.set_cons_succ, Array.toArray_toList]
              refine wpAnyH_take (i := 15) (v := ?_) rfl (by kernel_rfl) (by kernel_rfl) (by kernel_rfl) (fun _ _ _ h => h) (Or.inl ⟨by rfl, ?_⟩) (by assumption) ?_
              rotate_left
              · intro w hSw; (try dsimp only at hSw); go_split_ands; go_simp; with_reducible rfl
              change wpAnyH _ _ _ _ _ _ _ (Act.put _ (some 100) _) _
              simp only [Act.put, List.setIfInBounds_toArray, List.set_cons_zero, List.set_cons_succ, Array.toArray_toList]
              refine wpAnyH_ready (rs := [17]) (by kernel_rfl) (by simp) ?_
              refine (AllReadyH.cons rfl (fun K hK => ?_) AllReadyH.nil)
              refine step_store_row rfl _ _ _ rfl g13 tk rfl rfl 78 _ (Mq.out.blk (x := (g13, 78, Y36)) (List.mem_cons_self ..)) HI.out.1 HI.out.2.1 HI.out.2.2 ?_; have Mq := Lib.hid (Mq.out.setRow tk)
              refine hK.out _ _ (by exact ⟨(HCE.out _ Mq.out.bel).1, (HCE.out _ Mq.out.bel).2.1⟩) (fun hHeld => ?_)
              clear hK K
              refine wpAnyH_take (i := 18) (v := ?_) rfl (by kernel_rfl) (by kernel_rfl) (by kernel_rfl) (fun _ _ _ h => h) (Or.inl ⟨by rfl, ?_⟩) (by assumption) ?_
              rotate_left
              · intro w hSw; (try dsimp only at hSw); go_split_ands; go_simp; with_reducible rfl
              change wpAnyH _ _ _ _ _ _ _ (Act.put _ (some 14) _) _
              simp only [Act.put, List.setIfInBounds_toArray, List.set_cons_zero, List.set_cons_succ, Array.toArray_toList]
              refine wpAnyH_done (by kernel_rfl) ?_ _
              go_wp2_with fail
              go_meet
              exact ⟨_, rfl, rfl, Mq.out⟩
          case rest =>
            clear K0 Mq HIS
            obtain ⟨g13, rfl, rfl, mq⟩ := hcut
            have Mq := Lib.hid mq
            clear mq
            have HCE := Lib.hid (show ∀ w', MtX W [(g13, 78, tk), (g12, 23, #[.int .i64 id, .int .i64 M, .int .i64 ex, .int .i64 ((q : Int) + 1)])] [allRow (.slice A9 q c9) q (c4s cs)] g gK k cs2 w' → w'.cell? ⟨g12, 0, none⟩ = some (.int .i64 id) ∧ w'.cell? ⟨g12, 1, none⟩ = some (.int .i64 M) ∧ w'.cell? ⟨g12, 2, none⟩ = some (.int .i64 ex) ∧ w'.cell? ⟨g12, 3, none⟩ = some (.int .i64 ((q : Int) + 1)) from
              fun w' h => ⟨(h.blk (x := (g12, 23, #[.int .i64 id, .int .i64 M, .int .i64 ex, .int .i64 ((q : Int) + 1)])) (by simp)).cell 0, (h.blk (x := (g12, 23, #[.int .i64 id, .int .i64 M, .int .i64 ex, .int .i64 ((q : Int) + 1)])) (by simp)).cell 1, (h.blk (x := (g12, 23, #[.int .i64 id, .int .i64 M, .int .i64 ex, .int .i64 ((q : Int) + 1)])) (by simp)).cell 2, (h.blk (x := (g12, 23, #[.int .i64 id, .int .i64 M, .int .i64 ex, .int .i64 ((q : Int) + 1)])) (by simp)).cell 3⟩)
            have HRI := Lib.hid (fun w' => right05_any id M ex ((q : Int) + 1) w')
            have k0 := HCE.out _ Mq.out
            rcases HTK.out with ⟨hcl, ht1, ht2, ht3⟩ | ⟨hcl, S, hSl, hS, ht1, ht2, ht3⟩
            · have hri := HRI.out
              rw [decide_eq_false hcl] at hri
              have HRI := Lib.hid hri
              subst ht1 ht2 ht3
              clear hcl hri HTK HI
              go_wp2_with fail
              refine (HRI.out _).mono ?_
              rintro e w20 ⟨rfl, hb⟩
              have Mq := Lib.hid (Mq.out.below hb)
              clear hb k0
              have HCO := Lib.hid (show Calls Try.prog 39 #[.pointer (some ⟨g, 0, none⟩)] w20 fun e w' => e = .returned (.int .i64 q) ∧ w20 = w' from by
                have := count_any6 _ _ _ _ _ _ _ _ Mq.out
                rw [HQ.out] at this
                exact this)
              go_wp2_with (first | refine wpList_loadG rfl _ _ rfl g13 0 rfl Y36 _ (tkc_full (Mq.out.blk (x := (g13, 78, Y36)) (List.mem_cons_self ..))) Try.underlying78 rfl info_y36 ?_ | refine wpList_buildG rfl _ rfl _ (build_tok0 _) ?_ | refine wpList_binG rfl .neq _ _ _ _ rfl Y36 Y36 rfl rfl (by kernel_rfl) _ (neY36 _) ?_)
              refine HCO.out.mono ?_
              rintro e w21 ⟨rfl, rfl⟩
              go_wp2_with fail
              go_roundg (N - (kk + 1))
              case measure => exact meas hkk hlt
              case rel => exact ⟨kk + 1, meas2 hlt, by go_num, cs2, by rw [HQ.out]; omega, by
                rw [HQ.out]
                exact Mq.out.sub (List.nil_sublist _) (List.Sublist.refl _)⟩
            · have hri := HRI.out
              rw [decide_eq_true hcl] at hri
              have HRI := Lib.hid hri
              subst ht1 ht2 ht3
              have SL := Lib.hid hSl
              have HNE := Lib.hid (ne4c id M ex ((q : Int) + 1))
              have HHO := Lib.hid (show ∀ w' gK, KeyW w' gK k → Calls Try.prog 40 #[.pointer (some ⟨gK, 0, none⟩), .agg (tkc id M ex ((q : Int) + 1) S)] w' fun e w2 => e = .returned (.bool true) ∧ Below w'.heap.size w' w2 from fun w' gK hk => by
                have := holds_ok w' gK k hk (by have := F1.out; omega) id M ex ((q : Int) + 1) S hSl hcl
                rw [decide_eq_true hS] at this
                exact this)
              clear hcl hri HTK hS hSl HI
              go_wp2_with fail
              refine (HRI.out _).mono ?_
              rintro e w20 ⟨rfl, hb⟩
              have Mq := Lib.hid (Mq.out.below hb)
              clear hb k0
              have k0 := HCE.out _ Mq.out
              go_wp2_with fail
              refine (to05_any _ _ _ _ _).mono ?_
              rintro e w21 ⟨rfl, hb⟩
              have Mq := Lib.hid (Mq.out.below hb)
              clear hb k0
              obtain ⟨A, c, Ak, ck, m⟩ := Mq.out
              have Mz := Lib.hid (m.newrow 30 4 1 1 #[.int .i64 id, .int .i64 M, .int .i64 ex, .int .i64 ((q : Int) + 1)] (Nat.le_refl _) (by decide) rfl)
              clear m
              go_upto_region 18 with (at_builtin; refine wpList_appE rfl _ _ 72 rfl [_, _, _] Mz.out el_cls rfl _ (some ⟨w21.heap.size, 0, none⟩) 1 1 [.int .i64 id, .int .i64 M, .int .i64 ex, .int .i64 ((q : Int) + 1)] rfl (Mz.out.src (Mz.out.rowSrc (List.mem_cons_self ..))) (one4 _ _ _ _) (by unfold maxLen; omega) (by omega) ?_; intro A5 c5 w22 N5 X5 hn5 hx5 mq; have Mw := Lib.hid mq; have HN5 := Lib.hid hn5; have HX5 := Lib.hid hx5; clear mq hn5 hx5)
              have HN6 := Lib.hid (show N5 = q + 1 from HN5.out)
              have mw := Mw.out
              have hmx : MtX W [(g13, 78, tkc id M ex ((q : Int) + 1) S), (g12, 23, #[.int .i64 id, .int .i64 M, .int .i64 ex, .int .i64 ((q : Int) + 1)])] [allRow (.slice A5 N5 c5) N5 X5] g gK k (cs ++ [(id, M, ex, (q : Int) + 1)]) w22 := ⟨A, c, Ak, ck, mw.sub (List.Sublist.refl _) (List.sublist_cons_self _ _)⟩
              have Mq := Lib.hid hmx
              have HCO := Lib.hid (show ∀ w', MtX W [(g13, 78, tkc id M ex ((q : Int) + 1) S), (g12, 23, #[.int .i64 id, .int .i64 M, .int .i64 ex, .int .i64 ((q : Int) + 1)])] [allRow (.slice A5 N5 c5) N5 X5] g gK k (cs ++ [(id, M, ex, (q : Int) + 1)]) w' → Calls Try.prog 39 #[.pointer (some ⟨g, 0, none⟩)] w' fun e w2 => e = .returned (.int .i64 N5) ∧ w' = w2 from fun w' h => by
                have := count_any6 _ _ _ _ _ _ _ _ h
                rw [show (cs ++ [(id, M, ex, (q : Int) + 1)]).length = N5 by rw [List.length_append, HQ.out, HN6.out]; rfl] at this
                exact this)
              have HSX := Lib.hid (show ∀ w', MtX W [(g13, 78, tkc id M ex ((q : Int) + 1) S), (g12, 23, #[.int .i64 id, .int .i64 M, .int .i64 ex, .int .i64 ((q : Int) + 1)])] [allRow (.slice A5 N5 c5) N5 X5] g gK k (cs ++ [(id, M, ex, (q : Int) + 1)]) w' →
                (w'.cell? ⟨g13, 0, none⟩ = some (.int .i64 id) ∧ w'.cell? ⟨g13, 1, none⟩ = some (.int .i64 M) ∧ w'.cell? ⟨g13, 2, none⟩ = some (.int .i64 ex) ∧ w'.cell? ⟨g13, 3, none⟩ = some (.int .i64 ((q : Int) + 1))) ∧ (w'.cell? ⟨g12, 0, none⟩ = some (.int .i64 id) ∧ w'.cell? ⟨g12, 1, none⟩ = some (.int .i64 M) ∧ w'.cell? ⟨g12, 2, none⟩ = some (.int .i64 ex) ∧ w'.cell? ⟨g12, 3, none⟩ = some (.int .i64 ((q : Int) + 1))) ∧ w'.rangeAt g13 0 (tkc id M ex ((q : Int) + 1) S).toList from
                fun w' h => ⟨tkc_cells (h.blk (x := (g13, 78, tkc id M ex ((q : Int) + 1) S)) (by simp)), ⟨(h.blk (x := (g12, 23, #[.int .i64 id, .int .i64 M, .int .i64 ex, .int .i64 ((q : Int) + 1)])) (by simp)).cell 0, (h.blk (x := (g12, 23, #[.int .i64 id, .int .i64 M, .int .i64 ex, .int .i64 ((q : Int) + 1)])) (by simp)).cell 1, (h.blk (x := (g12, 23, #[.int .i64 id, .int .i64 M, .int .i64 ex, .int .i64 ((q : Int) + 1)])) (by simp)).cell 2, (h.blk (x := (g12, 23, #[.int .i64 id, .int .i64 M, .int .i64 ex, .int .i64 ((q : Int) + 1)])) (by simp)).cell 3⟩, tkc_full (h.blk (x := (g13, 78, tkc id M ex ((q : Int) + 1) S)) (by simp))⟩)
              have hu : ∃ d, Try.prog.underlying 78 = some d ∧ d.isRow = true := ⟨_, Try.underlying78, rfl⟩
              obtain ⟨d, hu, hd⟩ := hu
              have hki := info_tokL (i := id) (r := M) (x := ex) (s := (q : Int) + 1) SL.out
              clear mw hmx
              have K0 := Lib.hid (HSX.out _ (Mq.out.below (Below.refl _ _).drew))
              refine wp_region_held_drew (S := fun w' => (w'.cell? ⟨g13, 0, none⟩ = some (.int .i64 id) ∧ w'.cell? ⟨g13, 1, none⟩ = some (.int .i64 M) ∧ w'.cell? ⟨g13, 2, none⟩ = some (.int .i64 ex) ∧ w'.cell? ⟨g13, 3, none⟩ = some (.int .i64 ((q : Int) + 1))) ∧ (w'.cell? ⟨g12, 0, none⟩ = some (.int .i64 id) ∧ w'.cell? ⟨g12, 1, none⟩ = some (.int .i64 M) ∧ w'.cell? ⟨g12, 2, none⟩ = some (.int .i64 ex) ∧ w'.cell? ⟨g12, 3, none⟩ = some (.int .i64 ((q : Int) + 1))) ∧ w'.rangeAt g13 0 (tkc id M ex ((q : Int) + 1) S).toList) (by kernel_rfl) ?_ (fun hHeld => ?_)
              · exact K0.out
              generalize hw9 : World.drew _ = w9 at hHeld ⊢
              have Mq := Lib.hid ((Mq.out.below (Below.refl _ _).drew).toV hw9 rfl)
              clear hw9
              refine wpAnyH_take (i := 0) (v := ?_) rfl (by kernel_rfl) (by kernel_rfl) (by kernel_rfl) (fun _ _ _ h => h) (Or.inl ⟨by rfl, ?_⟩) (by assumption) ?_
              rotate_left
              · intro w hSw; (try dsimp only at hSw); go_split_ands; go_simp; with_reducible rfl
              change wpAnyH _ _ _ _ _ _ _ (Act.put _ (some 123) _) _
              simp only [Act.put, List.setIfInBounds_toArray, List.set_cons_zero, List.set_cons_succ, Array.toArray_toList]
              refine wpAnyH_take (i := 1) (v := ?_) rfl (by kernel_rfl) (by kernel_rfl) (by kernel_rfl) (fun _ _ _ h => h) (Or.inl ⟨by rfl, ?_⟩) (by assumption) ?_
              rotate_left
              · intro w hSw; (try dsimp only at hSw); go_split_ands; go_simp; with_reducible rfl
              change wpAnyH _ _ _ _ _ _ _ (Act.put _ (some 124) _) _
              simp only [Act.put, List.setIfInBounds_toArray, List.set_cons_zero, List.set_cons_succ, Array.toArray_toList]
              refine wpAnyH_take (i := 2) (v := ?_) rfl (by kernel_rfl) (by kernel_rfl) (by kernel_rfl) (fun _ _ _ h => h) (Or.inl ⟨by rfl, ?_⟩) (by assumption) ?_
              rotate_left
              · intro w hSw; (try dsimp only at hSw); go_split_ands; go_simp; with_reducible rfl
              change wpAnyH _ _ _ _ _ _ _ (Act.put _ (some 125) _) _
              simp only [Act.put, List.setIfInBounds_toArray, List.set_cons_zero, List.set_cons_succ, Array.toArray_toList]
              refine wpAnyH_take (i := 3) (v := ?_) rfl (by kernel_rfl) (by kernel_rfl) (by kernel_rfl) (fun _ _ _ h => h) (Or.inl ⟨by rfl, ?_⟩) (by assumption) ?_
              rotate_left
              · intro w hSw; (try dsimp only at hSw); go_split_ands; go_simp; with_reducible rfl
              change wpAnyH _ _ _ _ _ _ _ (Act.put _ (some 126) _) _
              simp only [Act.put, List.setIfInBounds_toArray, List.set_cons_zero, List.set_cons_succ, Array.toArray_toList]
              refine wpAnyH_take (i := 4) (v := ?_) rfl (by kernel_rfl) (by kernel_rfl) (by kernel_rfl) (fun _ _ _ h => h) (Or.inl ⟨by rfl, ?_⟩) (by assumption) ?_
              rotate_left
              · intro w hSw; (try dsimp only at hSw); go_split_ands; go_simp; with_reducible rfl
              change wpAnyH _ _ _ _ _ _ _ (Act.put _ (some 127) _) _
              simp only [Act.put, List.setIfInBounds_toArray, List.set_cons_zero, List.set_cons_succ, Array.toArray_toList]
              refine wpAnyH_take (i := 5) (v := ?_) rfl (by kernel_rfl) (by kernel_rfl) (by kernel_rfl) (fun _ _ _ h => h) (Or.inl ⟨by rfl, ?_⟩) (by assumption) ?_
              rotate_left
              · intro w hSw; (try dsimp only at hSw); go_split_ands; go_simp; with_reducible rfl
              change wpAnyH _ _ _ _ _ _ _ (Act.put _ (some 128) _) _
              simp only [Act.put, List.setIfInBounds_toArray, List.set_cons_zero, List.set_cons_succ, Array.toArray_toList]
              refine wpAnyH_ready (rs := [6]) (by kernel_rfl) (by simp) ?_
              refine (AllReadyH.cons rfl (fun K hK => ?_) AllReadyH.nil)
              go_simp
              (with_reducible refine (to05_any _ _ _ _ _).mono ?_); rintro e wq ⟨rfl, hb⟩; have Mq := Lib.hid (Mq.out.below hb); have hne := HNE.out; clear hb
              go_wp2_with fail
              refine hK.out _ _ (by exact HSX.out _ Mq.out) (fun hHeld => ?_)
              clear hK K
              refine wpAnyH_take (i := 7) (v := ?_) rfl (by kernel_rfl) (by kernel_rfl) (by kernel_rfl) (fun _ _ _ h => h) (Or.inl ⟨by rfl, ?_⟩) (by assumption) ?_
              rotate_left
              · intro w hSw; (try dsimp only at hSw); go_split_ands; go_simp; with_reducible rfl
              change wpAnyH _ _ _ _ _ _ _ (Act.put _ (some 130) _) _
              simp only [Act.put, List.setIfInBounds_toArray, List.set_cons_zero, List.set_cons_succ, Array.toArray_toList]
              refine wpAnyH_take (i := 8) (v := ?_) rfl (by kernel_rfl) (by kernel_rfl) (by kernel_rfl) (fun _ _ _ h => h) (Or.inl ⟨by rfl, ?_⟩) (by assumption) ?_
              rotate_left
              · intro w hSw; (try dsimp only at hSw); go_split_ands; go_simp; with_reducible rfl
              change wpAnyH _ _ _ _ _ _ _ (Act.put _ (some 131) _) _
              simp only [Act.put, List.setIfInBounds_toArray, List.set_cons_zero, List.set_cons_succ, Array.toArray_toList]
              refine wpAnyH_take (i := 9) (v := ?_) rfl (by kernel_rfl) (by kernel_rfl) (by kernel_rfl) (fun _ _ _ h => h) (Or.inl ⟨by rfl, ?_⟩) (by assumption) ?_
              rotate_left
              · intro w hSw; (try dsimp only at hSw); go_split_ands; go_simp; with_reducible rfl
              change wpAnyH _ _ _ _ _ _ _ (Act.put _ (some 132) _) _
              simp only [Act.put, List.setIfInBounds_toArray, List.set_cons_zero, List.set_cons_succ, Array.toArray_toList]
              refine wpAnyH_take (i := 10) (v := ?_) rfl (by kernel_rfl) (by kernel_rfl) (by kernel_rfl) (fun _ _ _ h => h) (Or.inl ⟨by rfl, ?_⟩) (by assumption) ?_
              rotate_left
              · intro w hSw; (try dsimp only at hSw); go_split_ands; go_simp; with_reducible rfl
              change wpAnyH _ _ _ _ _ _ _ (Act.put _ (some 133) _) _
              simp only [Act.put, List.setIfInBounds_toArray, List.set_cons_zero, List.set_cons_succ, Array.toArray_toList]
              refine wpAnyH_take (i := 12) rfl (by kernel_rfl) (by kernel_rfl) (by kernel_rfl) (fun _ _ _ h => h) (yieldsIf_load_mid (by rfl) _ _ rfl _ _ rfl _ _ (fun w hw => hw.2.2) hu hd hki) (by assumption) ?_
              change wpAnyH _ _ _ _ _ _ _ (Act.put _ (some 135) _) _
              simp only [Act.put, List.setIfInBounds_toArray, List.set_cons_zero, List.set_cons_succ, Array.toArray_toList]
              refine wpAnyH_ready (rs := [11]) (by kernel_rfl) (by simp) ?_
              refine (AllReadyH.cons rfl (fun K hK => ?_) AllReadyH.nil)
              go_simp
              (with_reducible refine (HMA.out _ _ _ _ _ _ Mq.out).mono ?_); rintro e wq ⟨gx, rfl, hk, hb⟩; have Mq := Lib.hid (Mq.out.below hb); have HK := Lib.hid hk; clear hb hk hne
              go_wp2_with fail
              refine hK.out _ _ (by exact HSX.out _ Mq.out) (fun hHeld => ?_)
              clear hK K
              refine wpAnyH_ready (rs := [13]) (by kernel_rfl) (by simp) ?_
              refine (AllReadyH.cons rfl (fun K hK => ?_) AllReadyH.nil)
              go_simp
              (with_reducible refine (HHO.out _ _ HK.out).mono ?_); rintro e wq ⟨rfl, hb⟩; have Mq := Lib.hid (Mq.out.below hb); clear hb
              go_wp2_with fail
              refine hK.out _ _ (by exact HSX.out _ Mq.out) (fun hHeld => ?_)
              clear hK K
              refine wpAnyH_take (i := 14) (v := ?_) rfl (by kernel_rfl) (by kernel_rfl) (by kernel_rfl) (fun _ _ _ h => h) (Or.inl ⟨by rfl, ?_⟩) (by assumption) ?_
              rotate_left
              · intro w hSw; (try dsimp only at hSw); go_split_ands; go_simp; with_reducible rfl
              change wpAnyH _ _ _ _ _ _ _ (Act.put _ (some 137) _) _
              simp only [Act.put, List.setIfInBounds_toArray, List.set_cons_zero, List.set_cons_succ, Array.toArray_toList]
              refine wpAnyH_take (i := 15) (v := ?_) rfl (by kernel_rfl) (by kernel_rfl) (by kernel_rfl) (fun _ _ _ h => h) (Or.inl ⟨by rfl, ?_⟩) (by assumption) ?_
              rotate_left
              · intro w hSw; (try dsimp only at hSw); go_split_ands; go_simp; with_reducible rfl
              change wpAnyH _ _ _ _ _ _ _ (Act.put _ (some 138) _) _
              simp only [Act.put, List.setIfInBounds_toArray, List.set_cons_zero, List.set_cons_succ, Array.toArray_toList]
              refine wpAnyH_take (i := 16) (v := ?_) rfl (by kernel_rfl) (by kernel_rfl) (by kernel_rfl) (fun _ _ _ h => h) (Or.inl ⟨by rfl, ?_⟩) (by assumption) ?_
              rotate_left
              · intro w hSw; (try dsimp only at hSw); go_split_ands; go_simp; with_reducible rfl
              change wpAnyH _ _ _ _ _ _ _ (Act.put _ (some 139) _) _
              simp only [Act.put, List.setIfInBounds_toArray, List.set_cons_zero, List.set_cons_succ, Array.toArray_toList]
              refine wpAnyH_take (i := 17) (v := ?_) rfl (by kernel_rfl) (by kernel_rfl) (by kernel_rfl) (fun _ _ _ h => h) (Or.inl ⟨by rfl, ?_⟩) (by assumption) ?_
              rotate_left
              · intro w hSw; (try dsimp only at hSw); go_split_ands; go_simp; with_reducible rfl
              change wpAnyH _ _ _ _ _ _ _ (Act.put _ (some 140) _) _
              simp only [Act.put, List.setIfInBounds_toArray, List.set_cons_zero, List.set_cons_succ, Array.toArray_toList]
              refine wpAnyH_take (i := 19) (v := ?_) rfl (by kernel_rfl) (by kernel_rfl) (by kernel_rfl) (fun _ _ _ h => h) (Or.inl ⟨by rfl, ?_⟩) (by assumption) ?_
              rotate_left
              · intro w hSw; (try dsimp only at hSw); go_split_ands; go_simp; with_reducible rfl
              change wpAnyH _ _ _ _ _ _ _ (Act.put _ (some 142) _) _
              simp only [Act.put, List.setIfInBounds_toArray, List.set_cons_zero, List.set_cons_succ, Array.toArray_toList]
              refine wpAnyH_take (i := 20) (v := ?_) rfl (by kernel_rfl) (by kernel_rfl) (by kernel_rfl) (fun _ _ _ h => h) (Or.inl ⟨by rfl, ?_⟩) (by assumption) ?_
              rotate_left
              · intro w hSw; (try dsimp only at hSw); go_split_ands; go_simp; with_reducible rfl
              change wpAnyH _ _ _ _ _ _ _ (Act.put _ (some 143) _) _
              simp only [Act.put, List.setIfInBounds_toArray, List.set_cons_zero, List.set_cons_succ, Array.toArray_toList]
              refine wpAnyH_ready (rs := [18]) (by kernel_rfl) (by simp) ?_
              refine (AllReadyH.cons rfl (fun K hK => ?_) AllReadyH.nil)
              go_simp
              (with_reducible refine (HCO.out _ Mq.out).mono ?_); rintro e wq ⟨rfl, rfl⟩
              go_wp2_with fail
              refine hK.out _ _ (by exact HSX.out _ Mq.out) (fun hHeld => ?_)
              clear hK K
              refine wpAnyH_take (i := 21) (v := ?_) rfl (by kernel_rfl) (by kernel_rfl) (by kernel_rfl) (fun _ _ _ h => h) (Or.inl ⟨by rfl, ?_⟩) (by assumption) ?_
              rotate_left
              · intro w hSw; (try dsimp only at hSw); go_split_ands; go_simp; with_reducible rfl
              change wpAnyH _ _ _ _ _ _ _ (Act.put _ (some 144) _) _
              simp only [Act.put, List.setIfInBounds_toArray, List.set_cons_zero, List.set_cons_succ, Array.toArray_toList]
              refine wpAnyH_take (i := 22) (v := ?_) rfl (by kernel_rfl) (by kernel_rfl) (by kernel_rfl) (fun _ _ _ h => h) (Or.inl ⟨by rfl, ?_⟩) (by assumption) ?_
              rotate_left
              · intro w hSw; (try dsimp only at hSw); go_split_ands; go_simp; with_reducible rfl
              change wpAnyH _ _ _ _ _ _ _ (Act.put _ (some 145) _) _
              simp only [Act.put, List.setIfInBounds_toArray, List.set_cons_zero, List.set_cons_succ, Array.toArray_toList]
              refine wpAnyH_done (by kernel_rfl) ?_ _
              clear hHeld K0
              go_wp2_with fail
              go_roundg (N - (kk + 1))
              case measure => exact meas hkk hlt
              case rel => exact ⟨kk + 1, meas2 hlt, by go_num, cs ++ [(id, M, ex, (q : Int) + 1)], by rw [List.length_append, HQ.out]; simp; omega, by
                rw [show (cs ++ [(id, M, ex, (q : Int) + 1)]).length = N5 by rw [List.length_append, HQ.out, HN6.out]; rfl, c4s_snoc, show c4s cs ++ c4v (id, M, ex, (q : Int) + 1) = X5 from HX5.out.symm]
                exact Mq.out.sub (List.nil_sublist _) (List.Sublist.refl _)⟩
      · obtain rfl : kk = N := by omega
        have HXT := Lib.hid (show ¬ ((kk : Int) < n) ∨ ¬ ((kk : Int) < 8) by have := HN.out; omega)
        have hx := HXT.out
        have hq8 : q ≤ 8 := by omega
        have Mq := Lib.hid hm
        clear hq hkk hlt hm HXT
        by_cases hs1 : serial < 1
        · have HFI := Lib.hid (mfind_no W wr _ _ g gK k cs Mq.out serial (.inl hs1))
          go_wp2_with fail
          all_goals (
            refine HFI.out.mono ?_
            rintro e w5 ⟨rfl, hb⟩
            have Mq := Lib.hid ((Mq.out.below hb).below ((Below.refl _ _).alloc (Nat.le_refl _) (.cells #[.int .i64 0, .int .i64 0, .int .i64 0, .int .i64 0] 30)))
            clear hb hx
            go_wp2_with fail
            refine (known06 _).mono ?_
            rintro e w6 ⟨rfl, hb⟩
            have Mq := Lib.hid (Mq.out.below hb)
            clear hb
            go_wp2
            go_ret
            exact ⟨rfl, Mq.out.bel⟩)
        · by_cases hs2 : (q : Int) < serial
          · have HFI := Lib.hid (mfind_no W wr _ _ g gK k cs Mq.out serial (.inr (by rw [HQ.out]; exact hs2)))
            go_wp2_with fail
            all_goals (
              refine HFI.out.mono ?_
              rintro e w5 ⟨rfl, hb⟩
              have Mq := Lib.hid ((Mq.out.below hb).below ((Below.refl _ _).alloc (Nat.le_refl _) (.cells #[.int .i64 0, .int .i64 0, .int .i64 0, .int .i64 0] 30)))
              clear hb hx
              go_wp2_with fail
              refine (known06 _).mono ?_
              rintro e w6 ⟨rfl, hb⟩
              have Mq := Lib.hid (Mq.out.below hb)
              clear hb
              go_wp2
              go_ret
              exact ⟨rfl, Mq.out.bel⟩)
          · obtain ⟨p, rfl⟩ : ∃ p : Nat, serial = (p : Int) + 1 := ⟨(serial - 1).toNat, by omega⟩
            have hpq : p < q := by omega
            obtain ⟨⟨ci, cr, cx, cz⟩, hcp⟩ : ∃ x, cs[p]? = some x := ⟨_, List.getElem?_eq_getElem (by rw [HQ.out]; exact hpq)⟩
            have HFI := Lib.hid (mfind_yes W wr _ _ g gK k cs Mq.out (by rw [HQ.out]; omega) p ci cr cx cz hcp)
            have hrow := Mq.out.rd9
            obtain ⟨b9, o9, rfl, -, -⟩ := hrow.2 (by omega)
            have HRC := Lib.hid (show ∀ w' bl, MtX W bl [allRow (.slice (some ⟨b9, o9, none⟩) q c9) q (c4s cs)] g gK k cs w' → w'.cell? ⟨b9, o9 + p * 4, none⟩ = some (.int .i64 ci) ∧ w'.cell? ⟨b9, o9 + p * 4 + 1, none⟩ = some (.int .i64 cr) ∧ w'.cell? ⟨b9, o9 + p * 4 + 2, none⟩ = some (.int .i64 cx) ∧ w'.cell? ⟨b9, o9 + p * 4 + 3, none⟩ = some (.int .i64 cz) from fun w' bl h => by
              obtain ⟨b', o', e', _, hc⟩ := h.rd9.2 (by omega)
              injection e' with e'
              injection e' with e1 e2 _
              subst e1 e2
              have hg := c4s_get cs p _ hcp
              refine ⟨hc _ _ (hg 0 _ rfl), ?_, ?_, ?_⟩
              · rw [Nat.add_assoc]; exact hc _ _ (hg 1 _ rfl)
              · rw [Nat.add_assoc]; exact hc _ _ (hg 2 _ rfl)
              · rw [Nat.add_assoc]; exact hc _ _ (hg 3 _ rfl))
            have HEQ := Lib.hid (eq4d ci cr cx cz)
            have HW1 := Lib.hid (show IntKind.i64.wrap ((p : Int) + 1 - 1) = p by rw [show (p : Int) + 1 - 1 = p by omega]; exact IntWalk.i64_in _ (by omega))
            have HW2 := Lib.hid (show IntKind.i64.wrap (p : Int) = p from IntWalk.i64_in _ (by omega))
            have HZ := Lib.hid (show ((p : Int) < q ∧ (0 : Int) ≤ p ∧ (q : Int) ≤ 8) ∧ (¬ (p : Int) + 1 < 1 ∧ ¬ (q : Int) < (p : Int) + 1) from ⟨⟨by omega, by omega, by omega⟩, hs1, hs2⟩)
            clear hrow hcp hs1 hs2 hs01 hs02 hpq hq8
            go_wp2_with fail
            all_goals (
              refine HFI.out.mono ?_
              rintro e w5 ⟨rfl, hb⟩
              have Mq := Lib.hid (((Mq.out.below hb).newb 30 #[.int .i64 ci, .int .i64 cr, .int .i64 cx, .int .i64 cz]).below (Below.refl _ _).drew)
              clear hb hx
              have HSX := Lib.hid (show ∀ w', MtX W [(w5.heap.size, 30, #[.int .i64 ci, .int .i64 cr, .int .i64 cx, .int .i64 cz])] [allRow (.slice (some ⟨b9, o9, none⟩) q c9) q (c4s cs)] g gK k cs w' →
                (w'.cell? ⟨w5.heap.size, 0, none⟩ = some (.int .i64 ci) ∧ w'.cell? ⟨w5.heap.size, 1, none⟩ = some (.int .i64 cr) ∧ w'.cell? ⟨w5.heap.size, 2, none⟩ = some (.int .i64 cx) ∧ w'.cell? ⟨w5.heap.size, 3, none⟩ = some (.int .i64 cz)) ∧ (w'.cell? ⟨b9, o9 + p * 4, none⟩ = some (.int .i64 ci) ∧ w'.cell? ⟨b9, o9 + p * 4 + 1, none⟩ = some (.int .i64 cr) ∧ w'.cell? ⟨b9, o9 + p * 4 + 2, none⟩ = some (.int .i64 cx) ∧ w'.cell? ⟨b9, o9 + p * 4 + 3, none⟩ = some (.int .i64 cz)) from
                fun w' h => ⟨⟨(h.blk (List.mem_cons_self ..)).cell 0, (h.blk (List.mem_cons_self ..)).cell 1, (h.blk (List.mem_cons_self ..)).cell 2, (h.blk (List.mem_cons_self ..)).cell 3⟩, HRC.out _ _ h⟩)
              have K0 := Lib.hid (HSX.out _ Mq.out)
              obtain ⟨y1, y2⟩ := HZ.out.2
              go_upto_region 23 with fail
              obtain ⟨z1, z2, z3⟩ := HZ.out.1
              have w1 := HW1.out
              have w2 := HW2.out
              refine wp_region_held_drew (S := fun w' => (w'.cell? ⟨w5.heap.size, 0, none⟩ = some (.int .i64 ci) ∧ w'.cell? ⟨w5.heap.size, 1, none⟩ = some (.int .i64 cr) ∧ w'.cell? ⟨w5.heap.size, 2, none⟩ = some (.int .i64 cx) ∧ w'.cell? ⟨w5.heap.size, 3, none⟩ = some (.int .i64 cz)) ∧ (w'.cell? ⟨b9, o9 + p * 4, none⟩ = some (.int .i64 ci) ∧ w'.cell? ⟨b9, o9 + p * 4 + 1, none⟩ = some (.int .i64 cr) ∧ w'.cell? ⟨b9, o9 + p * 4 + 2, none⟩ = some (.int .i64 cx) ∧ w'.cell? ⟨b9, o9 + p * 4 + 3, none⟩ = some (.int .i64 cz))) (by kernel_rfl) ?_ (fun hHeld => ?_)
              · exact K0.out
              generalize hw9 : World.drew _ = w9 at hHeld ⊢
              have Mq := Lib.hid (Mq.out.toV hw9 rfl)
              clear hw9
              refine wpAnyH_ready (rs := [0]) (by kernel_rfl) (by simp) ?_
              refine (AllReadyH.cons rfl (fun K hK => ?_) AllReadyH.nil)
              go_simp
              (with_reducible refine (known06 _).mono ?_); rintro e wq ⟨rfl, hb⟩; have Mq := Lib.hid (Mq.out.below hb); have heq := HEQ.out; clear hb
              go_wp2_with fail
              refine hK.out _ _ (by exact HSX.out _ Mq.out) (fun hHeld => ?_)
              clear hK K
              refine wpAnyH_take (i := 1) (v := ?_) rfl (by kernel_rfl) (by kernel_rfl) (by kernel_rfl) (fun _ _ _ h => h) (Or.inl ⟨by rfl, ?_⟩) (by assumption) ?_
              rotate_left
              · intro w hSw; (try dsimp only at hSw); go_split_ands; go_simp; with_reducible rfl
              change wpAnyH _ _ _ _ _ _ _ (Act.put _ (some 166) _) _
              simp only [Act.put, List.setIfInBounds_toArray, List.set_cons_zero, List.set_cons_succ, Array.toArray_toList]
              refine wpAnyH_take (i := 2) (v := ?_) rfl (by kernel_rfl) (by kernel_rfl) (by kernel_rfl) (fun _ _ _ h => h) (Or.inl ⟨by rfl, ?_⟩) (by assumption) ?_
              rotate_left
              · intro w hSw; (try dsimp only at hSw); go_split_ands; go_simp; with_reducible rfl
              change wpAnyH _ _ _ _ _ _ _ (Act.put _ (some 167) _) _
              simp only [Act.put, List.setIfInBounds_toArray, List.set_cons_zero, List.set_cons_succ, Array.toArray_toList]
              refine wpAnyH_take (i := 3) (v := ?_) rfl (by kernel_rfl) (by kernel_rfl) (by kernel_rfl) (fun _ _ _ h => h) (Or.inl ⟨by rfl, ?_⟩) (by assumption) ?_
              rotate_left
              · intro w hSw; (try dsimp only at hSw); go_split_ands; go_simp; with_reducible rfl
              change wpAnyH _ _ _ _ _ _ _ (Act.put _ (some 168) _) _
              simp only [Act.put, List.setIfInBounds_toArray, List.set_cons_zero, List.set_cons_succ, Array.toArray_toList]
              refine wpAnyH_take (i := 4) (v := ?_) rfl (by kernel_rfl) (by kernel_rfl) (by kernel_rfl) (fun _ _ _ h => h) (Or.inl ⟨by rfl, ?_⟩) (by assumption) ?_
              rotate_left
              · intro w hSw; (try dsimp only at hSw); go_split_ands; go_simp; with_reducible rfl
              change wpAnyH _ _ _ _ _ _ _ (Act.put _ (some 169) _) _
              simp only [Act.put, List.setIfInBounds_toArray, List.set_cons_zero, List.set_cons_succ, Array.toArray_toList]
              refine wpAnyH_take (i := 5) (v := ?_) rfl (by kernel_rfl) (by kernel_rfl) (by kernel_rfl) (fun _ _ _ h => h) (Or.inl ⟨by rfl, ?_⟩) (by assumption) ?_
              rotate_left
              · intro w hSw; (try dsimp only at hSw); go_split_ands; go_simp; with_reducible rfl
              change wpAnyH _ _ _ _ _ _ _ (Act.put _ (some 170) _) _
              simp only [Act.put, List.setIfInBounds_toArray, List.set_cons_zero, List.set_cons_succ, Array.toArray_toList]
              refine wpAnyH_take (i := 6) (v := ?_) rfl (by kernel_rfl) (by kernel_rfl) (by kernel_rfl) (fun _ _ _ h => h) (Or.inl ⟨by rfl, ?_⟩) (by assumption) ?_
              rotate_left
              · intro w hSw; (try dsimp only at hSw); go_split_ands; go_simp; with_reducible rfl
              change wpAnyH _ _ _ _ _ _ _ (Act.put _ (some 171) _) _
              simp only [Act.put, List.setIfInBounds_toArray, List.set_cons_zero, List.set_cons_succ, Array.toArray_toList]
              refine wpAnyH_take (i := 7) (v := ?_) rfl (by kernel_rfl) (by kernel_rfl) (by kernel_rfl) (fun _ _ _ h => h) (Or.inl ⟨by rfl, ?_⟩) (by assumption) ?_
              rotate_left
              · intro w hSw; (try dsimp only at hSw); go_split_ands; go_simp; with_reducible rfl
              change wpAnyH _ _ _ _ _ _ _ (Act.put _ (some 172) _) _
              simp only [Act.put, List.setIfInBounds_toArray, List.set_cons_zero, List.set_cons_succ, Array.toArray_toList]
              refine wpAnyH_take (i := 8) (v := ?_) rfl (by kernel_rfl) (by kernel_rfl) (by kernel_rfl) (fun _ _ _ h => h) (Or.inl ⟨by rfl, ?_⟩) (by assumption) ?_
              rotate_left
              · intro w hSw; (try dsimp only at hSw); go_split_ands; go_simp; with_reducible rfl
              change wpAnyH _ _ _ _ _ _ _ (Act.put _ (some 173) _) _
              simp only [Act.put, List.setIfInBounds_toArray, List.set_cons_zero, List.set_cons_succ, Array.toArray_toList]
              refine wpAnyH_take (i := 9) (v := ?_) rfl (by kernel_rfl) (by kernel_rfl) (by kernel_rfl) (fun _ _ _ h => h) (Or.inl ⟨by rfl, ?_⟩) (by assumption) ?_
              rotate_left
              · intro w hSw; (try dsimp only at hSw); go_split_ands; go_simp; with_reducible rfl
              change wpAnyH _ _ _ _ _ _ _ (Act.put _ (some 174) _) _
              simp only [Act.put, List.setIfInBounds_toArray, List.set_cons_zero, List.set_cons_succ, Array.toArray_toList]
              refine wpAnyH_take (i := 10) (v := ?_) rfl (by kernel_rfl) (by kernel_rfl) (by kernel_rfl) (fun _ _ _ h => h) (Or.inl ⟨by rfl, ?_⟩) (by assumption) ?_
              rotate_left
              · intro w hSw; (try dsimp only at hSw); go_split_ands; go_simp; with_reducible rfl
              change wpAnyH _ _ _ _ _ _ _ (Act.put _ (some 175) _) _
              simp only [Act.put, List.setIfInBounds_toArray, List.set_cons_zero, List.set_cons_succ, Array.toArray_toList]
              refine wpAnyH_take (i := 11) (v := ?_) rfl (by kernel_rfl) (by kernel_rfl) (by kernel_rfl) (fun _ _ _ h => h) (Or.inl ⟨by rfl, ?_⟩) (by assumption) ?_
              rotate_left
              · intro w hSw; (try dsimp only at hSw); go_split_ands; go_simp; with_reducible rfl
              change wpAnyH _ _ _ _ _ _ _ (Act.put _ (some 176) _) _
              simp only [Act.put, List.setIfInBounds_toArray, List.set_cons_zero, List.set_cons_succ, Array.toArray_toList]
              refine wpAnyH_take (i := 12) (v := ?_) rfl (by kernel_rfl) (by kernel_rfl) (by kernel_rfl) (fun _ _ _ h => h) (Or.inl ⟨by rfl, ?_⟩) (by assumption) ?_
              rotate_left
              · intro w hSw; (try dsimp only at hSw); go_split_ands; go_simp; with_reducible rfl
              change wpAnyH _ _ _ _ _ _ _ (Act.put _ (some 177) _) _
              simp only [Act.put, List.setIfInBounds_toArray, List.set_cons_zero, List.set_cons_succ, Array.toArray_toList]
              refine wpAnyH_take (i := 13) (v := ?_) rfl (by kernel_rfl) (by kernel_rfl) (by kernel_rfl) (fun _ _ _ h => h) (Or.inl ⟨by rfl, ?_⟩) (by assumption) ?_
              rotate_left
              · intro w hSw; (try dsimp only at hSw); go_split_ands; go_simp; with_reducible rfl
              change wpAnyH _ _ _ _ _ _ _ (Act.put _ (some 178) _) _
              simp only [Act.put, List.setIfInBounds_toArray, List.set_cons_zero, List.set_cons_succ, Array.toArray_toList]
              refine wpAnyH_take (i := 14) (v := ?_) rfl (by kernel_rfl) (by kernel_rfl) (by kernel_rfl) (fun _ _ _ h => h) (Or.inl ⟨by rfl, ?_⟩) (by assumption) ?_
              rotate_left
              · intro w hSw; (try dsimp only at hSw); go_split_ands; go_simp; with_reducible rfl
              change wpAnyH _ _ _ _ _ _ _ (Act.put _ (some 6) _) _
              simp only [Act.put, List.setIfInBounds_toArray, List.set_cons_zero, List.set_cons_succ, Array.toArray_toList]
              refine wpAnyH_done (by kernel_rfl) ?_ _
              go_wp2
              go_ret
              exact ⟨rfl, Mq.out.bel⟩)
theorem contract_tokenIssues (W : World) (v0 v1 v2 : Value) (a0 : ∃ r : Rw, v0 = r.v ∧ r.ok .u8 W) (a1 : ∃ A c, ∃ fs : List (Int × Int × Rw), v1 = .slice A fs.length c ∧ fs.length ≤ c ∧ c ≤ maxLen ∧ Rd W W.heap.size 3 A fs.length (fs.flatMap f3) ∧ ∀ f ∈ fs, in64 f.1 ∧ in64 f.2.1 ∧ f.2.2.ok .i64 W) (a2 : ∃ z, v2 = .int .i64 z ∧ in64 z) :
    Calls Try.prog 5 #[v0, v1, v2] W fun e W' => e = .returned (.bool true) ∧ Below W.heap.size W W' := by
  obtain ⟨r, rfl, hr⟩ := a0
  obtain ⟨A, c, fs, rfl, h1, h2, h3, h4⟩ := a1
  obtain ⟨z, rfl, hz⟩ := a2
  obtain ⟨l, e, g1, g2⟩ := rw_pt hr
  rw [e]
  exact tokenIssues_main W r.A A r.c c l g1 g2 fs h3 (fun f hf => (h4 f hf).2.2) (by unfold maxLen at h2; omega) z hz.1 hz.2
end Go.Proofs.Ytghcdffpplimoaa
