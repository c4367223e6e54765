/- Contracts of package digest: mix. -/
import Derived.Test.YthnaobolmgcclaaSha2
import Derived.Deep.DeepCutAuto
namespace Go.Proofs.Ythnaobolmgcclaa
set_option linter.unusedVariables false
open Go.RowKit

/-- Words ahead of other cells. -/
def hcs (l : List Wd) (rest : List Value) : Array Value := (l.map W ++ rest).toArray
theorem hcs_get {l : List Wd} {rest : List Value} {j : Nat} {x : Wd} (h : l[j]? = some x) : (hcs l rest)[j]? = some (W x) := by
  have hj : j < l.length := (List.getElem?_eq_some_iff.1 h).1
  simp only [hcs, List.getElem?_toArray]
  rw [List.getElem?_append_left (by simpa using hj)]
  simp [h]
theorem hcs_set (l : List Wd) (rest : List Value) {j : Nat} (hj : j < l.length) (x : Wd) : (hcs l rest).setIfInBounds j (W x) = hcs (l.set j x) rest := by
  simp only [hcs, List.setIfInBounds_toArray]
  rw [List.set_append_left _ _ (by simpa using hj), ← List.map_set]
/-- The first k words of two rows added. -/
def adK (s v : List Wd) (k : Nat) : List Wd := (List.zipWith (· + ·) s v).take k ++ s.drop k
theorem adK_len (s v : List Wd) (k : Nat) (h : s.length = v.length) : (adK s v k).length = s.length := by
  simp only [adK, List.length_append, List.length_take, List.length_drop, List.length_zipWith]
  omega
theorem adK_get (s v : List Wd) (k : Nat) (h : s.length = v.length) (hk : k < s.length) : (adK s v k)[k]? = some (s.getD k 0) := by
  have e : ((List.zipWith (· + ·) s v).take k).length = k := by simp; omega
  unfold adK
  rw [List.getElem?_append_right (by omega), e, Nat.sub_self, List.getElem?_drop, Nat.add_zero, List.getElem?_eq_getElem hk, List.getD_eq_getElem?_getD, List.getElem?_eq_getElem hk]
  rfl
theorem adK_set (s v : List Wd) (k : Nat) (h : s.length = v.length) (hk : k < s.length) : (adK s v k).set k (s.getD k 0 + v.getD k 0) = adK s v (k + 1) := by
  have e : ((List.zipWith (· + ·) s v).take k).length = k := by simp; omega
  unfold adK
  rw [List.set_append_right _ _ (by omega), e, Nat.sub_self, List.drop_eq_getElem_cons hk, List.set_cons_zero, List.take_succ_eq_append_getElem (by simp; omega), List.append_assoc]
  have hv : k < v.length := by omega
  simp [List.getD_eq_getElem?_getD, List.getElem?_eq_getElem hk, List.getElem?_eq_getElem hv]
theorem adK_0 (s v : List Wd) : adK s v 0 = s := by simp [adK]
theorem adK_8 (s v : H8) : adK s.l v.l 8 = (s.add v).l := rfl

theorem info_h8a : (Try.prog.info? 58).map (·.size) = some 8 := by kernel_rfl
structure MxR (w wr : World) (B : Nat) (ws : List Wd) (s : H8) (k : Nat) : Prop where
  m : Mst w wr [(B + 2, 58, Ws (roundsK ws s k).l), (B + 1, 57, Ws kTab), (B, 57, Ws ws)] []
structure MyR (w wr : World) (g B : Nat) (T : TypeId) (rest : List Value) (s v : H8) (k : Nat) : Prop where
  on : On w wr g
  bg : Bk wr g T (hcs (adK s.l v.l k) rest)
  bh : Bk wr (B + 2) 58 (Ws v.l)

abbrev Z64 : Array Value := #[Value.int IntKind.u32 0, Value.int IntKind.u32 0, Value.int IntKind.u32 0, Value.int IntKind.u32 0, Value.int IntKind.u32 0, Value.int IntKind.u32 0, Value.int IntKind.u32 0, Value.int IntKind.u32 0, Value.int IntKind.u32 0, Value.int IntKind.u32 0, Value.int IntKind.u32 0, Value.int IntKind.u32 0, Value.int IntKind.u32 0, Value.int IntKind.u32 0, Value.int IntKind.u32 0, Value.int IntKind.u32 0, Value.int IntKind.u32 0, Value.int IntKind.u32 0, Value.int IntKind.u32 0, Value.int IntKind.u32 0, Value.int IntKind.u32 0, Value.int IntKind.u32 0, Value.int IntKind.u32 0, Value.int IntKind.u32 0, Value.int IntKind.u32 0, Value.int IntKind.u32 0, Value.int IntKind.u32 0, Value.int IntKind.u32 0, Value.int IntKind.u32 0, Value.int IntKind.u32 0, Value.int IntKind.u32 0, Value.int IntKind.u32 0, Value.int IntKind.u32 0, Value.int IntKind.u32 0, Value.int IntKind.u32 0, Value.int IntKind.u32 0, Value.int IntKind.u32 0, Value.int IntKind.u32 0, Value.int IntKind.u32 0, Value.int IntKind.u32 0, Value.int IntKind.u32 0, Value.int IntKind.u32 0, Value.int IntKind.u32 0, Value.int IntKind.u32 0, Value.int IntKind.u32 0, Value.int IntKind.u32 0, Value.int IntKind.u32 0, Value.int IntKind.u32 0, Value.int IntKind.u32 0, Value.int IntKind.u32 0, Value.int IntKind.u32 0, Value.int IntKind.u32 0, Value.int IntKind.u32 0, Value.int IntKind.u32 0, Value.int IntKind.u32 0, Value.int IntKind.u32 0, Value.int IntKind.u32 0, Value.int IntKind.u32 0, Value.int IntKind.u32 0, Value.int IntKind.u32 0, Value.int IntKind.u32 0, Value.int IntKind.u32 0, Value.int IntKind.u32 0, Value.int IntKind.u32 0]
abbrev Z8 : Array Value := #[Value.int IntKind.u32 0, Value.int IntKind.u32 0, Value.int IntKind.u32 0, Value.int IntKind.u32 0, Value.int IntKind.u32 0, Value.int IntKind.u32 0, Value.int IntKind.u32 0, Value.int IntKind.u32 0]
/-- What a round writes. -/
abbrev rdA (a b cc d e f gg h y x : Wd) : Array Value := #[W (h + (rr e 6 ^^^ rr e 11 ^^^ rr e 25) + (e &&& f ^^^ ~~~e &&& gg) + y + x + ((rr a 2 ^^^ rr a 13 ^^^ rr a 22) + (a &&& b ^^^ a &&& cc ^^^ b &&& cc))), W a, W b, W cc, W (d + (h + (rr e 6 ^^^ rr e 11 ^^^ rr e 25) + (e &&& f ^^^ ~~~e &&& gg) + y + x)), W e, W f, W gg]
theorem rdA_eq (a b cc d e f gg h y x : Wd) : Ws (round1 ⟨a, b, cc, d, e, f, gg, h⟩ y x).l = rdA a b cc d e f gg h y x := rfl
/-- Two arrays that were just made and filled. -/
theorem two_new (w w2 : World) (h : Mst w w2 [] []) (T : TypeId) (Z K1 K2 : Array Value) : Bk ((w2.alloc (.cells Z T)).alloc (.cells Z T)) w2.heap.size T Z ∧
    Bk (((w2.alloc (.cells Z T)).alloc (.cells Z T)).setRow w2.heap.size K1) (w2.heap.size + 1) T Z ∧
    Mst w ((((w2.alloc (.cells Z T)).alloc (.cells Z T)).setRow w2.heap.size K1).setRow (w2.heap.size + 1) K2) [(w2.heap.size + 1, T, K2), (w2.heap.size, T, K1)] [] := by
  have m2 := (h.new T Z).new T Z
  rw [show (w2.alloc (.cells Z T)).heap.size = w2.heap.size + 1 by simp] at m2
  have m4 := Mst.setRow (bl := []) [_] m2 K1
  have m5 := Mst.setRow (bl := []) [] m4 K2
  exact ⟨m2.blk [_], m4.blk [], m5⟩
set_option maxRecDepth 100000 in
set_option maxHeartbeats 2000000 in
theorem mix_any (w : World) (g : Nat) (T : TypeId) (rest : List Value) (s : H8) (hb : Bk w g T (hcs s.l rest)) (A : Option Addr) (c : Nat) (l : List UInt8) (hl : l.length = 64) (hr : RB w w.heap.size A l) (hc : 64 ≤ c) (hcm : c ≤ 9223372036854775807) :
    Calls Try.prog 96 #[.pointer (some ⟨g, 0, none⟩), .slice A 64 c] w fun e w' => e = .returned (.tuple #[]) ∧ On w w' g ∧ Bk w' g T (hcs (mixW s l).l rest) := by
  have hsp := Lib.hid (spread_any w A c l hl hr hc hcm)
  have HB := Lib.hid hb
  obtain ⟨K1, hK1⟩ : ∃ K, Ws (spreadK l 64) = K := ⟨_, rfl⟩
  obtain ⟨K2, hK2⟩ : ∃ K, Ws kTab = K := ⟨_, rfl⟩
  have I1 := Lib.hid (show (Try.prog.info? 57).map (·.size) = some K1.size by rw [← hK1, Ws_size, spreadK_len]; exact info_arr64)
  have I2 := Lib.hid (show (Try.prog.info? 57).map (·.size) = some K2.size by rw [← hK2]; exact info_arr64)
  have S1 := Lib.hid (show Z64.size = K1.size by rw [← hK1, Ws_size, spreadK_len]; rfl)
  have S2 := Lib.hid (show Z64.size = K2.size by rw [← hK2]; rfl)
  have H1 := Lib.hid (show K1.all (·.oneCell') = true by rw [← hK1]; exact Ws_one _)
  have H2 := Lib.hid (show K2.all (·.oneCell') = true by rw [← hK2]; exact Ws_one _)
  rw [hK1] at hsp
  have htb : ∀ w, Calls Try.prog 105 #[] w fun e w' => e = .returned (.agg K2) ∧ Below w.heap.size w w' := by
    rw [← hK2]
    exact table_any
  have HK1 := Lib.hid hK1
  have HK2 := Lib.hid hK2
  have HT := Lib.hid htb
  clear hr hl hb hK1 hK2 htb
  go_enter Try.func96, Try.ntmps96
  go_wp2_with fail
  refine hsp.out.mono ?_
  rintro e w1 ⟨rfl, hb1⟩
  have HM1 := Lib.hid ((Mst.start w).below hb1)
  clear hb1
  go_wp2_with fail
  refine (HT.out w1).mono ?_
  rintro e w2 ⟨rfl, hb2⟩
  have HM2 := Lib.hid (HM1.out.below hb2)
  clear hb2
  obtain ⟨t1, t2, t3⟩ := two_new w w2 HM2.out 57 Z64 K1 K2
  have T1 := Lib.hid t1
  have T2 := Lib.hid t2
  have T3 := Lib.hid t3
  have hgw : g < w.heap.size := HB.out.lt
  have hgs : g < w2.heap.size := Nat.lt_of_lt_of_le hgw HM2.out.bel.size
  clear t1 t2 t3
  go_upto_region 1 with (first | refine wpList_store_row rfl _ _ _ rfl w2.heap.size K1 rfl rfl 57 _ T1.out I1.out S1.out H1.out ?_ | refine wpList_store_row rfl _ _ _ rfl (w2.heap.size + 1) K2 rfl rfl 57 _ T2.out I2.out S2.out H2.out ?_)
  have hs3 : ((((w2.alloc (.cells Z64 57)).alloc (.cells Z64 57)).setRow w2.heap.size K1).setRow (w2.heap.size + 1) K2).heap.size = w2.heap.size + 2 := by simp
  generalize ((((w2.alloc (.cells Z64 57)).alloc (.cells Z64 57)).setRow w2.heap.size K1).setRow (w2.heap.size + 1) K2) = w3 at T3 hs3 ⊢
  obtain ⟨B, hB⟩ : ∃ B, w2.heap.size = B := ⟨_, rfl⟩
  rw [hB] at T3 hs3 hgs ⊢
  clear T1 T2 HM2 HM1 hB
  obtain ⟨K3, hK3⟩ : ∃ K, Ws s.l = K := ⟨_, rfl⟩
  have L3 := Lib.hid (show w3.rangeAt g 0 (s.l.map W) from fun j v hv => by
    rw [Nat.zero_add]
    simp only [List.getElem?_map, Option.map_eq_some_iff] at hv
    obtain ⟨x, hx, rfl⟩ := hv
    exact T3.out.old hgw ((HB.out.cell j).trans (hcs_get hx)))
  have I3 := Lib.hid (show (Try.prog.info? 58).map (·.size) = some (s.l.map W).length from info_h8a)
  have I4 := Lib.hid (show (Try.prog.info? 58).map (·.size) = some K3.size by rw [← hK3]; exact info_h8a)
  have S3 := Lib.hid (show Z8.size = K3.size by rw [← hK3]; rfl)
  have H3 := Lib.hid (show K3.all (·.oneCell') = true by rw [← hK3]; exact Ws_one _)
  have HK3 := Lib.hid hK3
  have L3' := Lib.hid (show Value.agg (s.l.map W).toArray = .agg K3 by rw [← hK3]; rfl)
  have m4 := T3.out.new 58 Z8
  have m5 := Mst.setRow (bl := []) [] m4 K3
  rw [hs3] at m4 m5
  have T4 := Lib.hid (m4.blk [])
  have T5 := Lib.hid m5
  have HS3 := Lib.hid hs3
  clear m4 m5 hs3 hK3
  go_wp2_with (first | refine wpList_load_mid rfl _ _ rfl g 0 rfl (s.l.map W) _ L3.out Try.underlying58 rfl I3.out ?_ | refine wpList_store_row rfl _ _ _ rfl w3.heap.size K3 rfl L3'.out 58 _ (by rw [HS3.out]; exact T4.out) I4.out S3.out H3.out ?_)
  have hs3 := HS3.out
  rw [hs3]
  clear hs3 L3 L3' I4 S3 H3 T4
  have T6 := Lib.hid (show MxR w ((w3.alloc (.cells Z8 58)).setRow (B + 2) K3) B (spreadK l 64) s 0 from ⟨by
    rw [show Ws (roundsK (spreadK l 64) s 0).l = K3 from HK3.out, HK1.out, HK2.out]
    exact T5.out⟩)
  clear T5 T3 HS3 I1 I2 S1 S2 H1 H2 HK3
  go_loopg [19] 64 (fun gk s19 wr => ∃ k : Nat, k + gk = 64 ∧ s19 = .int .i64 k ∧ MxR w wr B (spreadK l 64) s k)
  case atStart => exact ⟨0, by omega, rfl, T6.out⟩
  case round =>
    obtain ⟨k, hk, rfl, ⟨hm⟩⟩ := hrel
    by_cases hlt : k < 64
    · obtain ⟨st, hst⟩ : ∃ st, roundsK (spreadK l 64) s k = st := ⟨_, rfl⟩
      obtain ⟨x, hx⟩ : ∃ x, (spreadK l 64).getD k 0 = x := ⟨_, rfl⟩
      obtain ⟨y, hy⟩ : ∃ y, kTab.getD k 0 = y := ⟨_, rfl⟩
      have gx : wr.cell? ⟨B, k, none⟩ = some (W x) := ((hm.blk [_, _]).cell k).trans (by rw [← hx]; exact Ws_getD (by rw [spreadK_len]; exact hlt))
      have gy : wr.cell? ⟨B + 1, k, none⟩ = some (W y) := ((hm.blk [_]).cell k).trans (by rw [← hy]; exact Ws_getD hlt)
      have hbh := hm.blk []
      have HM := Lib.hid hm
      rw [hst] at hbh
      obtain ⟨a, b, cc, d, e, f, gg, h⟩ := st
      have q0 : wr.cell? ⟨B + 2, 0, none⟩ = some (W a) := hbh.cell 0
      have q1 : wr.cell? ⟨B + 2, 1, none⟩ = some (W b) := hbh.cell 1
      have q2 : wr.cell? ⟨B + 2, 2, none⟩ = some (W cc) := hbh.cell 2
      have q3 : wr.cell? ⟨B + 2, 3, none⟩ = some (W d) := hbh.cell 3
      have q4 : wr.cell? ⟨B + 2, 4, none⟩ = some (W e) := hbh.cell 4
      have q5 : wr.cell? ⟨B + 2, 5, none⟩ = some (W f) := hbh.cell 5
      have q6 : wr.cell? ⟨B + 2, 6, none⟩ = some (W gg) := hbh.cell 6
      have q7 : wr.cell? ⟨B + 2, 7, none⟩ = some (W h) := hbh.cell 7
      have HBH := Lib.hid hbh
      have HX := Lib.hid (show roundsK (spreadK l 64) s (k + 1) = round1 ⟨a, b, cc, d, e, f, gg, h⟩ y x by rw [← hst, ← hx, ← hy]; rfl)
      have AX := fun (a b : Wd) (w : World) => W_xor (P := Try.prog) 56 a b w
      have AA := fun (a b : Wd) (w : World) => W_add (P := Try.prog) 56 a b w
      have AN := fun (a b : Wd) (w : World) => W_and (P := Try.prog) 56 a b w
      have AO := fun (a : Wd) (w : World) => W_not (P := Try.prog) a w
      clear hm hbh hst hx hy
      go_upto_region 6 with fail
      go_quiet ((go_at_call 106; exact Calls.quiet_of_same ((turned_any _ _ _ _ (by decide) (by decide) (by decide) _).mono fun _ _ ⟨h1, h2⟩ => ⟨h1, h2.symm⟩)))
      have HMq := Lib.hid (HM.out.drewN nq)
      have HBq := Lib.hid (HBH.out.drewN nq)
      clear gx gy q0 q1 q2 q3 q4 q5 q6 q7
      generalize wr.drewN nq = wq at HMq HBq ⊢
      have q0 : wq.cell? ⟨B + 2, 0, none⟩ = some (W a) := HBq.out.cell 0
      have q1 : wq.cell? ⟨B + 2, 1, none⟩ = some (W b) := HBq.out.cell 1
      have q2 : wq.cell? ⟨B + 2, 2, none⟩ = some (W cc) := HBq.out.cell 2
      go_wp2
      go_quiet ((go_at_call 106; exact Calls.quiet_of_same ((turned_any _ _ _ _ (by decide) (by decide) (by decide) _).mono fun _ _ ⟨h1, h2⟩ => ⟨h1, h2.symm⟩)))
      have HMp := Lib.hid (HMq.out.drewN nq)
      have HBp := Lib.hid (HBq.out.drewN nq)
      clear q0 q1 q2
      generalize wq.drewN nq = wp at HMp HBp ⊢
      have I8 := Lib.hid (show (Try.prog.info? 58).map (·.size) = some (rdA a b cc d e f gg h y x).size from info_h8a)
      have S8 := Lib.hid (show (Ws (H8.l ⟨a, b, cc, d, e, f, gg, h⟩)).size = (rdA a b cc d e f gg h y x).size from rfl)
      have O8 := Lib.hid (show (rdA a b cc d e f gg h y x).all (·.oneCell') = true by rw [← rdA_eq]; exact Ws_one _)
      have q0 : wp.cell? ⟨B + 2, 0, none⟩ = some (W a) := HBp.out.cell 0
      have q1 : wp.cell? ⟨B + 2, 1, none⟩ = some (W b) := HBp.out.cell 1
      have q2 : wp.cell? ⟨B + 2, 2, none⟩ = some (W cc) := HBp.out.cell 2
      have q3 : wp.cell? ⟨B + 2, 3, none⟩ = some (W d) := HBp.out.cell 3
      have q4 : wp.cell? ⟨B + 2, 4, none⟩ = some (W e) := HBp.out.cell 4
      have q5 : wp.cell? ⟨B + 2, 5, none⟩ = some (W f) := HBp.out.cell 5
      have q6 : wp.cell? ⟨B + 2, 6, none⟩ = some (W gg) := HBp.out.cell 6
      have SC := fun x => (Value.cells.eq_def (W x)).symm.trans (W_cells x)
      go_wp2_with (refine wpList_store_row rfl _ _ _ rfl (B + 2) (rdA a b cc d e f gg h y x) rfl rfl 58 _ HBp.out I8.out S8.out O8.out ?_)
      go_roundg (64 - (k + 1))
      case measure => exact meas hk hlt
      case rel => exact ⟨k + 1, meas2 hlt, by go_num, ⟨by
        rw [HX.out, rdA_eq]
        exact Mst.setRow (bl := []) [] HMp.out (rdA a b cc d e f gg h y x)⟩⟩
    · obtain rfl : k = 64 := by omega
      obtain ⟨v, hv⟩ : ∃ v, roundsK (spreadK l 64) s 64 = v := ⟨_, rfl⟩
      have HV := Lib.hid (show mixW s l = s.add v by rw [← hv]; rfl)
      rw [hv] at hm
      have T7 := Lib.hid (show MyR w wr g B T rest s v 0 from ⟨On.of_below hm.bel, by rw [adK_0]; exact HB.out.below hm.bel hgw, hm.blk []⟩)
      clear hm hlt hk hv T6
      go_wp2
      go_loopg [93] 8 (fun gk s93 wr => ∃ k : Nat, k + gk = 8 ∧ s93 = .int .i64 k ∧ MyR w wr g B T rest s v k)
      case atStart => exact ⟨0, by omega, rfl, T7.out⟩
      case round =>
        obtain ⟨k, hk, rfl, ⟨hon, hbg, hbh⟩⟩ := hrel
        by_cases hlt : k < 8
        · obtain ⟨x, hx⟩ : ∃ x, s.l.getD k 0 = x := ⟨_, rfl⟩
          obtain ⟨y, hy⟩ : ∃ y, v.l.getD k 0 = y := ⟨_, rfl⟩
          have gx := (hbg.cell k).trans (hcs_get (adK_get s.l v.l k rfl hlt))
          have gy := (hbh.cell k).trans (Ws_getD hlt)
          rw [hx] at gx
          rw [hy] at gy
          have fx := hbg.fr k
          have HX := Lib.hid (show (adK s.l v.l k).set k (x + y) = adK s.l v.l (k + 1) by rw [← hx, ← hy]; exact adK_set s.l v.l k rfl hlt)
          have HO := Lib.hid hon
          have HG := Lib.hid hbg
          have HH := Lib.hid hbh
          have AA := fun (a b : Wd) (w : World) => W_add (P := Try.prog) 56 a b w
          have ST := W_store (P := Try.prog)
          have SC := fun x => (Value.cells.eq_def (W x)).symm.trans (W_cells x)
          clear hon hbg hbh hx hy
          go_wp2
          go_region
          go_wp2
          go_roundg (8 - (k + 1))
          case measure => exact meas hk hlt
          case rel => exact ⟨k + 1, meas2 hlt, by go_num, ⟨(HO.out.set (p := ⟨g, k, none⟩) (.inl rfl) _).drew, by
            have := (HG.out.put k (W (x + y))).drew
            rw [hcs_set _ _ (by rw [adK_len s.l v.l k rfl]; exact hlt), HX.out] at this
            exact this, (HH.out.far (p := ⟨g, k, none⟩) (by simp; omega) _).drew⟩⟩
        · obtain rfl : k = 8 := by omega
          have HO := Lib.hid hon
          have HG := Lib.hid hbg
          clear hon hbg hbh hlt hk
          go_wp2
          go_end0
          exact ⟨rfl, HO.out, by rw [HV.out]; exact HG.out⟩
end Go.Proofs.Ythnaobolmgcclaa
