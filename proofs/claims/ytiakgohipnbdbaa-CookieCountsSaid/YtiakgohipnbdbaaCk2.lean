/- Contract of package cookie's of: the cookie of an epoch. -/
import Derived.Test.YtiakgohipnbdbaaCk1
namespace Go.Proofs.Ytiakgohipnbdbaa
set_option linter.unusedVariables false
set_option linter.unusedSimpArgs false
open Go.RowKit

abbrev cookieS : ByteArray := ⟨#[99, 111, 111, 107, 105, 101]⟩
/-- Two bytes for an address. -/
def two2 (a : Nat) : List UInt8 := [UInt8.ofNat (a >>> 8), UInt8.ofNat a]
/-- The cookie of an epoch. -/
def ckB (kb : List UInt8) (epoch address : Nat) (ls : List (List UInt8)) : List UInt8 := (macT kb (frameB (cookieS.data.toList :: len4 epoch :: two2 address :: ls))).take 16
theorem ckB_len (kb : List UInt8) (e a : Nat) (ls : List (List UInt8)) : (ckB kb e a ls).length = 16 := by unfold ckB; rw [List.length_take]; rfl

theorem two2_cells (a : Nat) (h : a < 65536) : [Value.int .u8 ((a : Int) / 256), .int .u8 ((a : Int) % 256)] = by8 (two2 a) := by
  have e8 : (((UInt8.ofNat (a >>> 8)).toNat : Nat) : Int) = (a : Int) / 256 := by
    rw [UInt8.toNat_ofNat', Nat.shiftRight_eq_div_pow]
    omega
  have e0 : (((UInt8.ofNat a).toNat : Nat) : Int) = (a : Int) % 256 := by
    rw [UInt8.toNat_ofNat']
    omega
  simp only [two2, by8, List.map_cons, List.map_nil, e0, e8]
theorem info_arr16 : (Try.prog.info? 51).map (·.size) = some 16 := by kernel_rfl
abbrev Y16 : Array Value := #[.int .u8 0, .int .u8 0, .int .u8 0, .int .u8 0, .int .u8 0, .int .u8 0, .int .u8 0, .int .u8 0, .int .u8 0, .int .u8 0, .int .u8 0, .int .u8 0, .int .u8 0, .int .u8 0, .int .u8 0, .int .u8 0]
theorem info_16 {K : List UInt8} (h : K.length = 16) : (Try.prog.info? 51).map (·.size) = some (b8a K).size := by rw [b8a_size, h]; exact info_arr16
theorem info_16L {K : List UInt8} (h : K.length = 16) : (Try.prog.info? 51).map (·.size) = some (by8 K).length := by rw [by8_length, h]; exact info_arr16
theorem y16_k {K : List UInt8} (h : K.length = 16) : Y16.size = (b8a K).size := by rw [b8a_size, h]; rfl
theorem Mst.toW {W w w2 w3 : World} {bl : Bl} {ow : List Ro} (h : Mst W w bl ow) (e : w2 = w3) (hh : w = w2) : Mst W w3 bl ow := by
  subst e hh
  exact h
/-- An owned row of bytes, its first cells as a range. -/
theorem own_range {w : World} {base e n cap : Nat} {g : Nat} {X : List UInt8} (h : w.ownsRow base e 1 (.slice (some ⟨g, 0, none⟩) n cap) n (by8 X)) (m : Nat) : w.rangeAt g 0 (by8 (X.take m)) := fun j v hv => by
  have hv2 : (by8 X)[j]? = some v := by
    simp only [by8, List.map_take] at hv
    rw [List.getElem?_take] at hv
    split at hv
    · simpa [by8] using hv
    · cases hv
  have := h.cells (g := g) rfl j v hv2
  rw [WideShapes.add_plain] at this
  exact this

set_option maxRecDepth 100000 in
set_option maxHeartbeats 1000000 in
theorem of_any (w : World) (gb gk : Nat) (kb : List UInt8) (hb : w.cell? ⟨gb, 2, none⟩ = some (.pointer (some ⟨gk, 0, none⟩))) (hk : KeyW w gk kb) (hkl : kb.length ≤ 1000) (e a : Nat) (he : e < 4294967296) (ha : a < 65536)
    (A1 : Option Addr) (c1 : Nat) (ps : List Pt) (hp : Pts w A1 ps) (hn : ps.length ≤ 50) (hpl : ∀ p ∈ ps, p.l.length ≤ 1000) :
    Calls Try.prog 64 #[.pointer (some ⟨gb, 0, none⟩), .int .i64 (e : Int), .int .i64 (a : Int), .slice A1 ps.length c1] w fun e_ w' => e_ = .returned (.agg (b8a (ckB kb e a (ps.map Pt.l)))) ∧ Below w.heap.size w w' := by
  obtain ⟨K2, hK2⟩ : ∃ K, macT kb (frameB (cookieS.data.toList :: len4 e :: two2 a :: ps.map Pt.l)) = K := ⟨_, rfl⟩
  have hKl2 : K2.length = 32 := by rw [← hK2]; rfl
  obtain ⟨K8, hK8⟩ : ∃ K, ckB kb e a (ps.map Pt.l) = K := ⟨_, rfl⟩
  have hKl8 : K8.length = 16 := by rw [← hK8]; exact ckB_len _ _ _ _
  have hK28 : K2.take 16 = K8 := by rw [← hK2, ← hK8]; rfl
  rw [hK8]
  have HKD := Lib.hid (show ∀ w' A' c' N g1 g2 c1 c2, N = ps.length + 2 → KeyW w' gk kb → Pts w' A' (⟨some ⟨g1, 0, none⟩, c1, len4 e⟩ :: ⟨some ⟨g2, 0, none⟩, c2, two2 a⟩ :: ps) → Calls Try.prog 75 #[.pointer (some ⟨gk, 0, none⟩), .string cookieS, .slice A' N c'] w' fun e w2 => ∃ gk', e = .returned (.pointer (some ⟨gk', 0, none⟩)) ∧ KeyW w2 gk' K2 ∧ Below w'.heap.size w' w2 from fun w' A' c' N g1 g2 c1 c2 hN h1 h2 => by
    subst hN
    have := kderive_any w' gk kb h1 (by omega) cookieS (by decide) A' c' _ h2 (by simp; omega) (by
      intro p hp
      rcases List.mem_cons.1 hp with rfl | hp
      · show (len4 e).length ≤ _
        rw [show (len4 e).length = 4 from rfl]; decide
      · rcases List.mem_cons.1 hp with rfl | hp
        · show (two2 a).length ≤ _
          rw [show (two2 a).length = 2 from rfl]; decide
        · exact hpl p hp)
    rw [show List.map Pt.l ((⟨some ⟨g1, 0, none⟩, c1, len4 e⟩ : Pt) :: ⟨some ⟨g2, 0, none⟩, c2, two2 a⟩ :: ps) = len4 e :: two2 a :: ps.map Pt.l from rfl, hK2] at this
    exact this)
  have HKB := Lib.hid (show ∀ w' gk', KeyW w' gk' K2 → Calls Try.prog 83 #[.pointer (some ⟨gk', 0, none⟩)] w' fun e w2 => ∃ g' c', e = .returned (.slice (some ⟨g', 0, none⟩) 32 c') ∧ 32 ≤ c' ∧ c' ≤ 9223372036854775807 ∧ Fresh w' w2 5 1 (.slice (some ⟨g', 0, none⟩) 32 c') 32 (by8 K2) from fun w' gk' h => by
    have := kbytes_any w' gk' K2 h (by rw [hKl2]; decide)
    rw [hKl2] at this
    refine this.mono ?_
    rintro e w2 ⟨v, rfl, hf⟩
    rcases hf.own.2 with ⟨_, e2⟩ | ⟨g, cap, cur, e1, _, _, h3, h4, _⟩
    · cases e2
    · subst e1
      exact ⟨g, cap, rfl, h3, by unfold maxLen at h4; omega, hf⟩)
  have HK := Lib.hid (fun w' (hb' : Below w.heap.size w w') => hk.keep hb')
  have HBC := Lib.hid (show ∀ w', Below w.heap.size w w' → w'.cell? ⟨gb, 2, none⟩ = some (.pointer (some ⟨gk, 0, none⟩)) from fun w' hb' => (hb'.cell (p := ⟨gb, 2, none⟩) (block_lt_of_cell hb)).trans hb)
  have HP := Lib.hid hp
  have HPO := Lib.hid (show ∀ q ∈ ps, RB w w.heap.size q.A q.l from hp.2)
  obtain ⟨n, hN⟩ : ∃ n, ps.length = n := ⟨_, rfl⟩
  have HPR := Lib.hid (show Rd w w.heap.size 1 A1 n (ps.map Pt.v) by have := hp.1; rwa [hN] at this)
  rw [hN] at hn HKD ⊢
  have HN := Lib.hid hN
  have L4 := Lib.hid (len4_cells e he)
  have L2 := Lib.hid (two2_cells a ha)
  have KL8 := Lib.hid hKl8
  have KL2 := Lib.hid hKl2
  have HK28 := Lib.hid hK28
  have m1 := ((Mst.start w).new 51 Y16).newrow 5 1 4 4 #[.int .u8 ((e : Int) / 16777216), .int .u8 ((e : Int) / 65536 % 256), .int .u8 ((e : Int) / 256 % 256), .int .u8 ((e : Int) % 256)] (Nat.le_refl _) (by decide) rfl
  rw [show (w.alloc (.cells Y16 51)).heap.size = w.heap.size + 1 by simp] at m1
  have M1 := Lib.hid m1
  have hAA : ∀ (g : Nat) (c' : Nat) (w : World), (Instr.arrayAt 51 (.slice (some ⟨g, 0, none⟩) 16 c')).run Try.prog w = .ok (.pointer (some ⟨g, 0, none⟩)) w := fun a c w => by simp [Instr.arrayAt, run_underlying Try.underlying51]
  have i1 : (0 : Int) ≤ e := by omega
  have i2 : (e : Int) < 4294967296 := by omega
  have i3 : (0 : Int) ≤ a := by omega
  have i4 : (a : Int) < 65536 := by omega
  clear hb hk hp hpl hN hK2 hK8 hKl2 hKl8 hK28 m1
  go_enter Try.func64, Try.ntmps64
  go_upto_region 2 with fail
  generalize hw1 : World.alloc (World.alloc _ _) _ = w1
  have M1 := Lib.hid (M1.out.toW hw1 rfl)
  have m2 := M1.out.newrow 5 1 2 2 #[.int .u8 ((a : Int) / 256), .int .u8 ((a : Int) % 256)] (Nat.le_refl _) (by decide) rfl
  have m3 := m2.newrow 24 1 2 2 #[.slice (some ⟨w.heap.size + 1, 0, none⟩) 4 4, .slice (some ⟨w1.heap.size, 0, none⟩) 2 2] (Nat.le_refl _) (by decide) rfl
  rw [show (w1.alloc (.cells #[.int .u8 ((a : Int) / 256), .int .u8 ((a : Int) % 256)] 5)).heap.size = w1.heap.size + 1 by simp] at m3
  have M3 := Lib.hid m3
  clear hw1 m2 m3
  go_upto_region 3 with (at_builtin; refine wpList_appE rfl _ _ 46 rfl [] M3.out el_bs rfl _ A1 n c1 (ps.map Pt.v) rfl (M3.out.src (Src.old HPR.out)) (by simp [Pt.v, Value.oneCell']) (by unfold maxLen; omega) (by omega) ?_; intro A5 c5 w5 N5 X5 hn5 hx5 mq; have Mq := Lib.hid mq; have HN5 := Lib.hid hn5; have HX5 := Lib.hid hx5; clear mq hn5 hx5)
  have hpts : Pts w5 A5 (⟨some ⟨w.heap.size + 1, 0, none⟩, 4, len4 e⟩ :: ⟨some ⟨w1.heap.size, 0, none⟩, 2, two2 a⟩ :: ps) := by
    have hr := own_rd (Mq.out.row [])
    rw [HN5.out, HX5.out] at hr
    refine ⟨by
      rw [show (⟨some ⟨w.heap.size + 1, 0, none⟩, 4, len4 e⟩ :: ⟨some ⟨w1.heap.size, 0, none⟩, 2, two2 a⟩ :: ps : List Pt).length = 2 + n by simp; rw [HN.out]; omega]
      exact hr, fun p hp => ?_⟩
    rcases List.mem_cons.1 hp with rfl | hp
    · have := Mq.out.src (Mq.out.rowSrc (size := 1) (n := 4) (A := some ⟨w.heap.size + 1, 0, none⟩) (c := 4) (e := 5) (List.mem_cons_of_mem _ (List.mem_cons_of_mem _ (List.mem_cons_self ..))))
      unfold RB
      rw [← L4.out]
      exact this
    · rcases List.mem_cons.1 hp with rfl | hp
      · have := Mq.out.src (Mq.out.rowSrc (size := 1) (n := 2) (A := some ⟨w1.heap.size, 0, none⟩) (c := 2) (e := 5) (List.mem_cons_of_mem _ (List.mem_cons_self ..)))
        unfold RB
        rw [← L2.out]
        exact this
      · exact Mq.out.src (Src.old (HPO.out p hp))
  have c1' := HBC.out _ Mq.out.bel
  have HD := Lib.hid (HKD.out w5 A5 c5 N5 _ _ _ _ (by rw [HN5.out]; omega) (HK.out _ Mq.out.bel) hpts)
  clear hpts
  go_wp2_with fail
  refine HD.out.mono ?_
  rintro e w6 ⟨gk', rfl, hkw, hb⟩
  have Mq := Lib.hid ((Mq.out.below hb).sub (ow' := []) (List.Sublist.refl _) (List.nil_sublist _))
  have HB := Lib.hid (HKB.out w6 gk' hkw)
  clear hkw hb c1'
  go_wp2_with fail
  refine HB.out.mono ?_
  rintro e w7 ⟨g7, c7, rfl, hc7, hc8, hf⟩
  have Mq := Lib.hid (Mq.out.addr hf)
  have hr16 := own_range hf.own 16
  rw [HK28.out] at hr16
  have R16 := Lib.hid hr16
  have j1 : (16 : Int) ≤ c7 := by omega
  have j2 : (16 : Int) ≤ 32 := by decide
  clear hf hr16 hc7
  go_wp2_with (first | refine wpList_load_mid rfl _ _ rfl g7 0 rfl (by8 K8) _ R16.out Try.underlying51 rfl (info_16L KL8.out) ?_ | refine wpList_store_row rfl _ _ _ rfl w.heap.size (b8a K8) rfl rfl 51 _ (Mq.out.blk []) (info_16 KL8.out) (y16_k KL8.out) (b8a_one K8) ?_)
  exact bodyPost_ret (results_cell_row rfl _ _ w.heap.size 51 _ (0, 0) _ rfl (setRow_heap _ _ _ _ _ _ (Mq.out.blk [])) Try.underlying51 rfl (info_16 KL8.out)) rfl ⟨rfl, (Mst.setRow (bl := []) [] Mq.out (b8a K8)).bel⟩
end Go.Proofs.Ytiakgohipnbdbaa
