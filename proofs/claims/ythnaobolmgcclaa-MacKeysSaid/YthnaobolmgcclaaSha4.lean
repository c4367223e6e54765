/- Contracts of package digest: all whole blocks of a slice; out. -/
import Derived.Test.YthnaobolmgcclaaSha3
import Derived.Test.YthnaobolmgcclaaApp2
namespace Go.Proofs.Ythnaobolmgcclaa
set_option linter.unusedVariables false
open Go.RowKit

theorem shaN_snoc (s : H8) (l : List UInt8) (k : Nat) : shaN s l (k + 1) = mixW (shaN s l k) ((l.drop (64 * k)).take 64) := by
  induction k generalizing s l with
  | zero => rfl
  | succ k ih =>
    show shaN (mixW s (l.take 64)) (l.drop 64) (k + 1) = mixW (shaN (mixW s (l.take 64)) (l.drop 64) k) _
    rw [ih, List.drop_drop, show 64 + 64 * k = 64 * (k + 1) by omega]
/-- A slice's rest behind 64 elements. -/
theorem slice64 (b o n c : Nat) (hn : 64 ≤ n) (hc : n ≤ c) (hm : c ≤ 9223372036854775807) : ∃ A', (∀ w, (Instr.sliceAt 26 (.slice (some ⟨b, o, none⟩) n c) (some (.int .i64 64)) none none).run Try.prog w = .ok (.slice A' (n - 64) (c - 64)) w) ∧ (n ≠ 64 → A' = some ⟨b, o + 64, none⟩) := by
  have h1 : (64 : Int) ≤ n := by omega
  have h2 : (n : Int) ≤ c := by omega
  by_cases h : c = 64
  · subst h
    refine ⟨some ⟨b, o, none⟩, fun w => ?_, fun h => by omega⟩
    go_simp
  · refine ⟨some ⟨b, o + 64, none⟩, fun w => ?_, fun _ => rfl⟩
    go_simp

structure AlR (w wr : World) (g : Nat) (T : TypeId) (rest : List Value) (s : H8) (l : List UInt8) (b o c k : Nat) (A' : Option Addr) (n' c' : Nat) : Prop where
  on : On w wr g
  bg : Bk wr g T (hcs (shaN s l k).l rest)
  ad : 64 * k < l.length → A' = some ⟨b, o + 64 * k, none⟩
  hn : n' = l.length - 64 * k
  hc : n' ≤ c' ∧ c' ≤ c

set_option maxRecDepth 100000 in
set_option maxHeartbeats 1000000 in
theorem all_any (w : World) (g : Nat) (T : TypeId) (rest : List Value) (s : H8) (hb : Bk w g T (hcs s.l rest)) (b o c : Nat) (l : List UInt8) (hr : RB w w.heap.size (some ⟨b, o, none⟩) l) (hbg : b ≠ g) (hc : l.length ≤ c) (hcm : c ≤ 9223372036854775807) :
    Calls Try.prog 83 #[.pointer (some ⟨g, 0, none⟩), .slice (some ⟨b, o, none⟩) l.length c] w fun e w' => ∃ A' c', e = .returned (.slice A' (restA l).length c') ∧ On w w' g ∧ Bk w' g T (hcs (shaA s l).l rest) ∧
      (restA l ≠ [] → A' = some ⟨b, o + 64 * (l.length / 64), none⟩) ∧ (restA l).length ≤ c' ∧ c' ≤ c := by
  have T0 := Lib.hid (show AlR w w g T rest s l b o c 0 (some ⟨b, o, none⟩) l.length c from ⟨On.refl _ _, hb, fun _ => rfl, rfl, hc, Nat.le_refl _⟩)
  have HR := Lib.hid hr
  have hgw := hb.lt
  have hbw : 0 < l.length → b < w.heap.size := fun h => by
    obtain ⟨b', o', e, h1, _⟩ := hr.2 h
    injection e with e
    injection e with e1
    omega
  have HBW := Lib.hid hbw
  obtain ⟨n, hn⟩ : ∃ n, l.length = n := ⟨_, rfl⟩
  rw [hn] at T0 ⊢
  have HN := Lib.hid hn
  clear hb hr hbw hn hc
  go_enter Try.func83, Try.ntmps83
  go_wp2
  go_loopg [1] (n / 64) (fun gk s1 wr => ∃ k A' n' c', k + gk = n / 64 ∧ s1 = .slice A' n' c' ∧ AlR w wr g T rest s l b o c k A' n' c')
  case atStart => exact ⟨0, _, _, _, by omega, rfl, T0.out⟩
  case round =>
    obtain ⟨k, A', n', c', hk, rfl, hon, hbk, had, hn', hc1, hc2⟩ := hrel
    rw [HN.out] at had hn'
    by_cases hlt : k < n / 64
    · obtain rfl := had (by omega)
      have h64 : 64 ≤ n' := by omega
      have hd : ((l.drop (64 * k)).take 64).length = 64 := by simp only [List.length_take, List.length_drop]; have := HN.out; omega
      have hrd : RB wr wr.heap.size (some ⟨b, o + 64 * k, none⟩) ((l.drop (64 * k)).take 64) := by
        obtain ⟨b', o', e, h1, h2⟩ := HR.out.2 (by have := HN.out; omega)
        injection e with e
        injection e with e1 e2
        subst e1 e2
        refine ⟨by simp [by8], fun _ => ⟨b, o + 64 * k, rfl, Nat.lt_of_lt_of_le h1 hon.size, fun j u hu => ?_⟩⟩
        have hu2 : (by8 l)[64 * k + j]? = some u := by
          simp only [by8, List.map_take, List.map_drop] at hu ⊢
          rw [List.getElem?_take] at hu
          split at hu
          · rw [List.getElem?_drop] at hu; exact hu
          · cases hu
        rw [Nat.add_assoc]
        exact (On.cell hon h1 hbg).trans (h2 _ _ hu2)
      have hmx := Lib.hid (mix_any wr g T rest (shaN s l k) hbk _ c' _ hd hrd (by omega) (by omega))
      obtain ⟨A2, hs2, ha2⟩ := slice64 b (o + 64 * k) n' c' h64 hc1 (by omega)
      have HA2 := Lib.hid ha2
      have hcc : 64 ≤ c' := by omega
      have HO := Lib.hid hon
      have HN' := Lib.hid hn'
      clear hon hbk had hd hrd ha2 hn'
      go_wp2_with fail
      refine hmx.out.mono ?_
      rintro e w1 ⟨rfl, ho1, hb1⟩
      have HO1 := Lib.hid (HO.out.trans ho1)
      have HB1 := Lib.hid hb1
      clear ho1 hb1
      go_wp2
      go_roundg (n / 64 - (k + 1))
      case measure => exact meas hk hlt
      case rel =>
        refine ⟨k + 1, A2, n' - 64, c' - 64, meas2 hlt, rfl, HO1.out, by rw [shaN_snoc]; exact HB1.out, fun h => ?_, ?_, by omega, by omega⟩
        · have h1 := HN'.out
          have h2 := HN.out
          rw [HA2.out (by omega), Nat.mul_add, Nat.mul_one, Nat.add_assoc]
        · have h1 := HN'.out
          have h2 := HN.out
          omega
    · have e : k = n / 64 := by omega
      subst e
      have hlt64 : n' < 64 := by omega
      have hl2 : (restA l).length = n' := by rw [restA_len, HN.out]; omega
      have h3 : restA l ≠ [] → A' = some ⟨b, o + 64 * (n / 64), none⟩ := fun h => had (by
        have := List.length_pos_iff.2 h
        omega)
      have H3 := Lib.hid h3
      have HL := Lib.hid hl2
      have HO := Lib.hid hon
      have HB := Lib.hid hbk
      clear hon hbk had hn' h3 hl2 hlt hk
      go_wp2
      go_ret
      exact ⟨A', c', by rw [HL.out]; rfl, HO.out, by
        have := HB.out
        unfold shaA
        rw [HN.out]
        exact this, H3.out, by rw [HL.out]; exact hc1, hc2⟩

theorem info_arr32 : (Try.prog.info? 54).map (·.size) = some 32 := by kernel_rfl
theorem info_h8b : (Try.prog.info? 58).map (·.size) = some 8 := by kernel_rfl
/-- Bytes of a word. -/
theorem W_byte (x : Wd) (w : World) : (convert 56 5 (W x)).run Try.prog w = .ok (.int .u8 ((UInt8.ofNat x.toNat).toNat : Int)) w := by
  have : (convert 56 5 (W x)).run Try.prog w = .ok (.int .u8 (IntKind.u8.wrap (x.toNat : Int))) w := by
    unfold W
    go_simp
  rw [this, wrap_u8]
  congr 2
theorem W_byteS (x : Wd) (n : Nat) (w : World) : (convert 56 5 (W (x >>> n))).run Try.prog w = .ok (.int .u8 ((UInt8.ofNat (x.toNat >>> n)).toNat : Int)) w := by
  rw [W_byte, BitVec.toNat_ushiftRight]
/-- The first k of a row's bytes, and nothing behind them. -/
def upB (L : List UInt8) (k : Nat) : List UInt8 := L.take k ++ List.replicate (L.length - k) 0
theorem upB_len (L : List UInt8) {k : Nat} (h : k ≤ L.length) : (upB L k).length = L.length := by simp [upB]; omega
theorem upB_set (L : List UInt8) {k : Nat} {x : UInt8} (h : L[k]? = some x) : (upB L k).set k x = upB L (k + 1) := by
  have hk : k < L.length := (List.getElem?_eq_some_iff.1 h).1
  have e : (L.take k).length = k := by simp; omega
  unfold upB
  rw [List.set_append_right _ _ (by omega), e, Nat.sub_self, show L.length - k = (L.length - (k + 1)) + 1 by omega, List.replicate_succ, List.set_cons_zero, List.take_succ_eq_append_getElem hk, List.append_assoc]
  rw [List.getElem?_eq_getElem hk] at h
  injection h with h
  rw [h]
  rfl
def b8a (l : List UInt8) : Array Value := (by8 l).toArray
theorem b8a_set (l : List UInt8) (k : Nat) (b : UInt8) : (b8a l).setIfInBounds k (.int .u8 (b.toNat : Int)) = b8a (l.set k b) := by simp [b8a, by8_set]
theorem b8a_get {l : List UInt8} {k : Nat} (h : k < l.length) : (b8a l)[k]? = some (.int .u8 ((l.getD k 0).toNat : Int)) := by
  simp only [b8a, List.getElem?_toArray]
  exact by8_getD h
theorem b8a_size (l : List UInt8) : (b8a l).size = l.length := by simp [b8a, by8_length]
theorem b8a_one (l : List UInt8) : (b8a l).all (·.oneCell') = true := by
  rw [Array.all_eq_true_iff_forall_mem]
  intro v hv
  exact by8_one l v (by simpa [b8a] using hv)
abbrev Y32 : Array Value := #[Value.int IntKind.u8 0, Value.int IntKind.u8 0, Value.int IntKind.u8 0, Value.int IntKind.u8 0, Value.int IntKind.u8 0, Value.int IntKind.u8 0, Value.int IntKind.u8 0, Value.int IntKind.u8 0, Value.int IntKind.u8 0, Value.int IntKind.u8 0, Value.int IntKind.u8 0, Value.int IntKind.u8 0, Value.int IntKind.u8 0, Value.int IntKind.u8 0, Value.int IntKind.u8 0, Value.int IntKind.u8 0, Value.int IntKind.u8 0, Value.int IntKind.u8 0, Value.int IntKind.u8 0, Value.int IntKind.u8 0, Value.int IntKind.u8 0, Value.int IntKind.u8 0, Value.int IntKind.u8 0, Value.int IntKind.u8 0, Value.int IntKind.u8 0, Value.int IntKind.u8 0, Value.int IntKind.u8 0, Value.int IntKind.u8 0, Value.int IntKind.u8 0, Value.int IntKind.u8 0, Value.int IntKind.u8 0, Value.int IntKind.u8 0]
theorem zero32 (L : List UInt8) (h : L.length = 32) : b8a (upB L 0) = Y32 := by
  unfold upB
  rw [h]
  rfl
theorem out_at (s : H8) (k : Nat) (h : k < 8) : (outW s)[4 * k]? = some (UInt8.ofNat ((s.l.getD k 0).toNat >>> 24)) ∧ (outW s)[4 * k + 1]? = some (UInt8.ofNat ((s.l.getD k 0).toNat >>> 16)) ∧
    (outW s)[4 * k + 2]? = some (UInt8.ofNat ((s.l.getD k 0).toNat >>> 8)) ∧ (outW s)[4 * k + 3]? = some (UInt8.ofNat (s.l.getD k 0).toNat) := by
  have h8 : k = 0 ∨ k = 1 ∨ k = 2 ∨ k = 3 ∨ k = 4 ∨ k = 5 ∨ k = 6 ∨ k = 7 := by omega
  rcases h8 with rfl | rfl | rfl | rfl | rfl | rfl | rfl | rfl <;> exact ⟨rfl, rfl, rfl, rfl⟩
theorem outW_len (s : H8) : (outW s).length = 32 := rfl

structure OuR (w wr : World) (s : H8) (k : Nat) : Prop where
  m : Mst w wr [(w.heap.size + 1, 54, b8a (upB (outW s) (4 * k))), (w.heap.size, 54, Y32)] []
set_option maxRecDepth 100000 in
set_option maxHeartbeats 1000000 in
theorem out_any (w : World) (g : Nat) (T : TypeId) (rest : List Value) (s : H8) (hb : Bk w g T (hcs s.l rest)) :
    Calls Try.prog 85 #[.pointer (some ⟨g, 0, none⟩)] w fun e w' => e = .returned (.agg (b8a (outW s))) ∧ Below w.heap.size w w' := by
  have m0 := ((Mst.start w).new 54 Y32).new 54 Y32
  rw [show (w.alloc (.cells Y32 54)).heap.size = w.heap.size + 1 by simp] at m0
  have T0 := Lib.hid (show OuR w ((w.alloc (.cells Y32 54)).alloc (.cells Y32 54)) s 0 from ⟨by rw [zero32 _ (outW_len s)]; exact m0⟩)
  have hgw := hb.lt
  have HB := Lib.hid hb
  have L3 := Lib.hid (show ((w.alloc (.cells Y32 54)).alloc (.cells Y32 54)).rangeAt g 0 (s.l.map W) from fun j v hv => by
    rw [Nat.zero_add]
    simp only [List.getElem?_map, Option.map_eq_some_iff] at hv
    obtain ⟨x, hx, rfl⟩ := hv
    exact m0.old hgw ((HB.out.cell j).trans (hcs_get hx)))
  have I3 := Lib.hid (show (Try.prog.info? 58).map (·.size) = some (s.l.map W).length from info_h8b)
  obtain ⟨K3, hK3⟩ : ∃ K, Ws s.l = K := ⟨_, rfl⟩
  have HI : ∀ (k : Nat), k < 8 → ∀ w, (Instr.index 58 (.agg (Ws s.l)) (.int .i64 k)).run Try.prog w = .ok (W (s.l.getD k 0)) w := fun k hk w =>
    run_index_arr Try.underlying58 (agg_no Try.underlying56 rfl) (size_of (by kernel_rfl)) (by omega) (by omega) (by rw [show ((k : Int)).toNat = k by omega]; exact Ws_getD hk) w
  rw [hK3] at HI
  have HI' := Lib.hid HI
  have HK := Lib.hid (show (List.map W s.l).toArray = K3 from hK3)
  clear hb m0 hK3 HI
  go_enter Try.func85, Try.ntmps85
  go_wp2_with (first | refine wpList_load_mid rfl _ _ rfl g 0 rfl (s.l.map W) _ L3.out Try.underlying58 rfl I3.out ?_)
  rw [HK.out]
  go_loopg [10] 8 (fun gk s10 wr => ∃ k : Nat, k + gk = 8 ∧ s10 = .int .i64 k ∧ OuR w wr s k)
  case atStart => exact ⟨0, by omega, rfl, T0.out⟩
  case round =>
    obtain ⟨k, hk, rfl, ⟨hm⟩⟩ := hrel
    by_cases hlt : k < 8
    · have hi := HI'.out k hlt
      obtain ⟨o0, o1, o2, o3⟩ := out_at s k hlt
      obtain ⟨x, hx⟩ : ∃ x, s.l.getD k 0 = x := ⟨_, rfl⟩
      rw [hx] at hi o0 o1 o2 o3
      have kb := hm.blk []
      have hlen : (upB (outW s) (4 * k)).length = 32 := upB_len _ (by rw [outW_len]; omega)
      have c0 := (kb.cell (4 * k)).trans (b8a_get (by omega))
      have c1 := (kb.cell (4 * k + 1)).trans (b8a_get (by omega))
      have c2 := (kb.cell (4 * k + 2)).trans (b8a_get (by omega))
      have c3 := (kb.cell (4 * k + 3)).trans (b8a_get (by omega))
      have f0 := kb.fr (4 * k)
      have f1 := kb.fr (4 * k + 1)
      have f2 := kb.fr (4 * k + 2)
      have f3 := kb.fr (4 * k + 3)
      have b0 : ∀ w, (convert 56 5 (W (x >>> 24))).run Try.prog w = .ok (.int .u8 ((UInt8.ofNat (x.toNat >>> 24)).toNat : Int)) w := W_byteS x 24
      have b1 : ∀ w, (convert 56 5 (W (x >>> 16))).run Try.prog w = .ok (.int .u8 ((UInt8.ofNat (x.toNat >>> 16)).toNat : Int)) w := W_byteS x 16
      have b2 : ∀ w, (convert 56 5 (W (x >>> 8))).run Try.prog w = .ok (.int .u8 ((UInt8.ofNat (x.toNat >>> 8)).toNat : Int)) w := W_byteS x 8
      have b3 : ∀ w, (convert 56 5 (W x)).run Try.prog w = .ok (.int .u8 ((UInt8.ofNat x.toNat).toNat : Int)) w := W_byte x
      obtain ⟨B0, h0⟩ : ∃ B, UInt8.ofNat (x.toNat >>> 24) = B := ⟨_, rfl⟩
      obtain ⟨B1, h1⟩ : ∃ B, UInt8.ofNat (x.toNat >>> 16) = B := ⟨_, rfl⟩
      obtain ⟨B2, h2⟩ : ∃ B, UInt8.ofNat (x.toNat >>> 8) = B := ⟨_, rfl⟩
      obtain ⟨B3, h3⟩ : ∃ B, UInt8.ofNat x.toNat = B := ⟨_, rfl⟩
      rw [h0] at b0 o0
      rw [h1] at b1 o1
      rw [h2] at b2 o2
      rw [h3] at b3 o3
      have s24 : ∀ w, (binOp .shr 56 (W x) (.int .u64 24)).run Try.prog w = .ok (W (x >>> 24)) w := fun w => W_shr 56 x w .u64 24 (by decide)
      have s16 : ∀ w, (binOp .shr 56 (W x) (.int .u64 16)).run Try.prog w = .ok (W (x >>> 16)) w := fun w => W_shr 56 x w .u64 16 (by decide)
      have s8 : ∀ w, (binOp .shr 56 (W x) (.int .u64 8)).run Try.prog w = .ok (W (x >>> 8)) w := fun w => W_shr 56 x w .u64 8 (by decide)
      have O0 := Lib.hid (upB_set _ o0)
      have O1 := Lib.hid (upB_set _ o1)
      have O2 := Lib.hid (upB_set _ o2)
      have O3 := Lib.hid (upB_set _ o3)
      have HM := Lib.hid hm
      clear hm kb hlen hx h0 h1 h2 h3 o0 o1 o2 o3
      go_wp2
      go_roundg (8 - (k + 1))
      case measure => exact meas hk hlt
      case rel => exact ⟨k + 1, meas2 hlt, by go_num, ⟨by
        have m1 := Mst.put [] HM.out (4 * k) (.int .u8 (B0.toNat : Int))
        rw [b8a_set, O0.out] at m1
        have m2 := Mst.put [] m1 (4 * k + 1) (.int .u8 (B1.toNat : Int))
        rw [b8a_set, O1.out] at m2
        have m3 := Mst.put [] m2 (4 * k + 2) (.int .u8 (B2.toNat : Int))
        rw [b8a_set, O2.out] at m3
        have m4 := Mst.put [] m3 (4 * k + 3) (.int .u8 (B3.toNat : Int))
        rw [b8a_set, O3.out] at m4
        exact m4⟩⟩
    · obtain rfl : k = 8 := by omega
      have e8 : upB (outW s) (4 * 8) = outW s := by unfold upB; rw [outW_len]; rfl
      rw [e8] at hm
      have hb3 := hm.blk []
      have L1 := Lib.hid (show wr.rangeAt (w.heap.size + 1) 0 (by8 (outW s)) from hb3.range fun j v hv => by
        rw [Nat.zero_add]
        simpa [b8a] using hv)
      have I1 := Lib.hid (show (Try.prog.info? 54).map (·.size) = some (by8 (outW s)).length by rw [by8_length, outW_len]; exact info_arr32)
      have I2 := Lib.hid (show (Try.prog.info? 54).map (·.size) = some (b8a (outW s)).size by rw [b8a_size, outW_len]; exact info_arr32)
      have H1 := Lib.hid (b8a_one (outW s))
      have HB2 := Lib.hid (hm.blk [_])
      have HM := Lib.hid hm
      clear hm hb3 hlt hk e8
      go_wp2_with (first | refine wpList_load_mid rfl _ _ rfl (w.heap.size + 1) 0 rfl (by8 (outW s)) _ L1.out Try.underlying54 rfl I1.out ?_ | refine wpList_store_row rfl _ _ _ rfl w.heap.size (b8a (outW s)) rfl rfl 54 _ HB2.out I2.out (by rw [b8a_size, outW_len]; rfl) H1.out ?_)
      refine bodyPost_ret (results_cell_row rfl _ _ w.heap.size 54 _ (0, 0) _ rfl (setRow_heap _ _ _ _ _ _ HB2.out) Try.underlying54 rfl I2.out) rfl ⟨rfl, ?_⟩
      exact (Mst.setRow (bl := []) [_] HM.out _).bel
end Go.Proofs.Ythnaobolmgcclaa
