/- DropsJoin: the walk of the law: drops that are joined count what both did; a copy goes its own way; in whichever order they are the same. -/
import Derived.Test.YtidphalfafaniaaDr8
import Derived.Test.YtidphalfafaniaaOpen2
import Derived.Test.YtidphalfafaniaaMod
namespace Go.Proofs.Ytidphalfafaniaa
set_option linter.unusedVariables false
open Go.RowKit

/-- A row that was just made, of none. -/
theorem Mst.newnil {W wr : World} {bl : List (Nat × TypeId × Array Value)} {ow : List Ro} (h : Mst W wr bl ow) (e : TypeId) (size : Nat) : Mst W (wr.alloc (.cells #[] e)) bl (⟨e, size, .slice (some ⟨wr.heap.size, 0, none⟩) 0 0, 0, []⟩ :: ow) := by
  have := h.newrow e size 0 0 #[] (Nat.le_refl _) (by simp) (by simp)
  simpa using this

theorem ri_of {w : World} {B : Nat} {A : Option Addr} {n : Nat} {xs : List Value} (h : Rd w B 1 A n xs) {l : List Int} (hx : xs = i64s l) (hn : n = l.length) : RI w B A l := by subst hx hn; exact h

theorem dns_comm (top : Int) (a b : List Int) : dns top (a ++ b) = dns top (b ++ a) := by
  unfold dns
  apply List.map_congr_left
  intro k _
  unfold ofN
  rw [List.count_append, List.count_append, Nat.add_comm]

set_option maxRecDepth 100000 in
set_option maxHeartbeats 8000000 in
theorem dropsJoin_walk (top other : Int) (l o : Rw) (W : World) (hl : l.ok .i64 W) (hr : o.ok .i64 W) :
    Calls Try.prog 9 #[.int .i64 top, .int .i64 other, .slice l.A l.zs.length l.c, .slice o.A o.zs.length o.c] W fun e W' => e = .returned (.bool true) ∧ Below W.heap.size W W' := by
  obtain ⟨T, hT, hT1, hT9⟩ := mod_one top 9 (by omega) (by omega)
  obtain ⟨U, hU, hU1, hU9⟩ := mod_one other 9 (by omega) (by omega)
  have HTT := Lib.hid hT
  have HUU := Lib.hid hU
  have HL := Lib.hid hl.rd
  have HR := Lib.hid hr.rd
  have hll : l.zs.length ≤ maxLen := Nat.le_trans hl.le hl.cap
  have hrl : o.zs.length ≤ maxLen := Nat.le_trans hr.le hr.cap
  clear hT hU hl hr
  go_enter Try.func9, Try.ntmps9
  go_wp2_with fail
  rw [HTT.out, HUU.out]
  refine (new13 T hT1 (by omega) _).mono ?_
  rintro r w1 ⟨rfl, b1, k1⟩
  have s1 := (Mst.start W).addb b1 k1 (Nat.le_refl _)
  have hz1 := k1.lt
  clear b1 k1
  go_wp2_with fail
  refine (new13 U hU1 (by omega) _).mono ?_
  rintro r w2 ⟨rfl, b2, k2⟩
  have s2 := s1.addb b2 k2 (Nat.le_refl _)
  have hz2 := k2.lt
  clear b2 k2 s1
  go_wp2_with fail
  refine (to13 l.A l.c l.zs _ (s2.oldRd HL.out) hll).mono ?_
  rintro r w3 ⟨A3, c3, A4, c4, n, rfl, hn, t0⟩
  have s3 := s2.join t0
  obtain ⟨y, hy⟩ : ∃ y, l.zs.take 20 = y := ⟨_, rfl⟩
  have hy20 : y.length ≤ 20 := by rw [← hy, List.length_take]; omega
  rw [hy] at s3 hn
  subst hn
  clear s2 t0 hy
  go_wp2_with fail
  refine (to13 o.A o.c o.zs _ (s3.oldRd HR.out) hrl).mono ?_
  rintro r w4 ⟨A5, c5, A6, c6, n, rfl, hn, t0⟩
  have s4 := s3.join t0
  obtain ⟨z, hz⟩ : ∃ y, o.zs.take 20 = y := ⟨_, rfl⟩
  have hz20 : z.length ≤ 20 := by rw [← hz, List.length_take]; omega
  rw [hz] at s4 hn
  subst hn
  clear s3 t0 hz
  have S4 := Lib.hid s4
  clear s4
  go_wp2_with fail
  refine (S4.out.callsOn [_] (count13_at W.heap.size T [] y y.length _ (S4.out.blk [_]) (own_rd (S4.out.row [_, _, _])) rfl (S4.out.row_ne (e := 29) (size := 1) (n := y.length) (xs := i64s y) (v := .slice A3 y.length c3) (A := A3) (m := y.length) (c := c3) (t := 101) (cs := dcs T (dns T [])) (by simp) (by simp) rfl) (by omega) hT1 (by omega))).mono ?_
  rintro r w5 ⟨rfl, s5⟩
  have S5 := Lib.hid s5
  clear S4 s5
  go_wp2_with fail
  refine (S5.out.callsOn [] (count13_at w1.heap.size U [] z z.length _ (S5.out.blk []) (own_rd (S5.out.row [_])) rfl (S5.out.row_ne (e := 29) (size := 1) (n := z.length) (xs := i64s z) (v := .slice A5 z.length c5) (A := A5) (m := z.length) (c := c5) (t := 101) (cs := dcs U (dns U [])) (by simp) (by simp) rfl) (by omega) hU1 (by omega))).mono ?_
  rintro r w6 ⟨rfl, s60⟩
  simp only [List.nil_append, List.cons_append] at s60
  have s6 := s60.sub (bl' := [(w1.heap.size, 101, dcs U (dns U z)), (W.heap.size, 101, dcs T (dns T y))]) (ow' := [⟨3, 1, .slice A6 z.length c6, z.length, i64s z⟩, ⟨3, 1, .slice A4 y.length c4, y.length, i64s y⟩]) (List.Sublist.refl _) (by simp)
  have S6 := Lib.hid s6
  clear S5 s6 s60
  go_wp2_with fail
  refine (copy13 W.heap.size T _ _ (S6.out.blk [_]) (dns_len _ _)).mono ?_
  rintro r w7 ⟨rfl, b7, k7⟩
  have s7 := S6.out.addb b7 k7 (Nat.le_refl _)
  have hz7 := k7.lt
  have hz6 := S6.out.bel.size
  have S7 := Lib.hid s7
  have hz61 := (S6.out.blk []).lt
  clear S6 s7 b7 k7
  go_wp2_with fail
  refine (copy13 w1.heap.size U _ _ (S7.out.blk [_]) (dns_len _ _)).mono ?_
  rintro r w8 ⟨rfl, b8, k8⟩
  have s8 := S7.out.addb b8 k8 (Nat.le_refl _)
  have hz8 := k8.lt
  have S8 := Lib.hid s8
  clear S7 s8 b8 k8
  go_wp2_with fail
  by_cases hTU : T = U
  · subst hTU
    clear HUU HTT
    have hnn : (T != T) = false := by simp
    refine (S8.out.callsOn [_] (join13 w6.heap.size w1.heap.size T y z _ (S8.out.blk [_]) (S8.out.blk [_, _]) (by omega) hT1 (by omega))).mono ?_
    rintro r w9 ⟨rfl, s9⟩
    have S9 := Lib.hid s9
    clear S8 s9
    go_wp2_with fail
    refine (S9.out.callsOn [] (join13 w7.heap.size W.heap.size T z y _ (S9.out.blk []) (S9.out.blk [_, _, _]) (by omega) hT1 (by omega))).mono ?_
    rintro r w10 ⟨rfl, s10⟩
    have S10 := Lib.hid s10
    clear S9 s10
    go_wp2_with fail
    have s11 := S10.out.new 47 #[.int .i64 T, .slice A4 y.length c4]
    refine (s11.calls (tells13 W.heap.size w10.heap.size T y A4 c4 _ (s11.blk [_, _, _, _]) (s11.blk []) (own_rd (s11.row [_])) (by omega) hT1 (by omega))).mono ?_
    rintro r w11 ⟨rfl, s12⟩
    have S12 := Lib.hid s12
    clear S10 s11 s12
    go_wp2_with fail
    have s13 := S12.out.new 47 #[.int .i64 T, .slice A6 z.length c6]
    refine (s13.calls (tells13 w1.heap.size w11.heap.size T z A6 c6 _ (s13.blk [_, _, _, _]) (s13.blk []) (own_rd (s13.row [])) (by omega) hT1 (by omega))).mono ?_
    rintro r w12 ⟨rfl, s14⟩
    have S14 := Lib.hid s14
    clear S12 s13 s14
    go_wp2_with fail
    refine (S14.out.calls (join13_nil W.heap.size _)).mono ?_
    rintro r w13 ⟨rfl, s15⟩
    have S15 := Lib.hid s15
    clear S14 s15
    go_wp2_with fail
    refine (S15.out.calls (known13 _)).mono ?_
    rintro r w14 ⟨rfl, s16⟩
    have S16 := Lib.hid s16
    clear S15 s16
    have S17 := Lib.hid (S16.out.newnil 3 1)
    go_wp2_with (at_builtin; first
      | (refine wpList_appG rfl _ _ 37 rfl [] S17.out el_int rfl _ _ _ _ (i64s y) rfl (own_rd (S17.out.row [_, _])) (i64s_one _) (by unfold maxLen; omega) (by omega) ?_; intro A1 d1 w15 s18; rw [Nat.zero_add, List.nil_append] at s18; have S18 := Lib.hid s18; clear s18)
      | (refine wpList_appG rfl _ _ 37 rfl [] S18.out el_int rfl _ _ _ _ (i64s z) rfl (own_rd (S18.out.row [_])) (i64s_one _) (by unfold maxLen; omega) (by omega) ?_; intro A2 d2 w16 s19; have S19 := Lib.hid s19; clear s19))
    have hyz : y.length + z.length = (y ++ z).length := by simp
    have hiy : ([] : List Value) ++ i64s y ++ i64s z = i64s (y ++ z) := by simp [i64s]
    have s19 := S19.out
    rw [hyz, hiy] at s19
    have s20 := s19.new 47 #[.int .i64 T, .slice A2 (y ++ z).length d2]
    rw [← hyz] at s20
    have ht := tells13 w6.heap.size w16.heap.size T (y ++ z) A2 d2 _ (s20.blk [_, _, _, _]) (by rw [← hyz]; exact s20.blk []) (ri_of (own_rd (s20.row [])) rfl hyz) (by simp; omega) hT1 (by omega)
    refine (s20.calls ht).mono ?_
    rintro r w17 ⟨rfl, s21⟩
    have S21 := Lib.hid s21
    clear S19 s19 s20 s21 hyz hiy ht
    go_wp2_with fail
    have hs1 := S21.out.calls (same13 w6.heap.size w7.heap.size T _ _ _ (S21.out.blk [_, _, _, _]) (S21.out.blk [_, _, _]) (dns_len _ _) (dns_len _ _))
    rw [show (dns T (y ++ z) == dns T (z ++ y)) = true by rw [dns_comm]; simp] at hs1
    refine hs1.mono ?_
    rintro r w18 ⟨rfl, s22⟩
    have S22 := Lib.hid s22
    clear S21 s22 hs1
    go_wp2_with fail
    go_ret
    exact ⟨rfl, S22.out.bel⟩
  · have hnn : (T != U) = true := by simpa using hTU
    have HN := Lib.hid hTU
    clear hTU
    refine (S8.out.calls (join13_no w6.heap.size w1.heap.size T U _ _ _ (S8.out.blk [_]) (S8.out.blk [_, _]) HN.out)).mono ?_
    rintro r w9 ⟨rfl, s9⟩
    have S9 := Lib.hid s9
    clear S8 s9
    go_wp2_with fail
    refine (S9.out.calls (join13_no w7.heap.size W.heap.size U T _ _ _ (S9.out.blk []) (S9.out.blk [_, _, _]) (fun e => HN.out e.symm))).mono ?_
    rintro r w10 ⟨rfl, s10⟩
    have S10 := Lib.hid s10
    clear S9 s10
    go_wp2_with fail
    have s11 := S10.out.new 47 #[.int .i64 T, .slice A4 y.length c4]
    refine (s11.calls (tells13 W.heap.size w10.heap.size T y A4 c4 _ (s11.blk [_, _, _, _]) (s11.blk []) (own_rd (s11.row [_])) (by omega) hT1 (by omega))).mono ?_
    rintro r w11 ⟨rfl, s12⟩
    have S12 := Lib.hid s12
    clear S10 s11 s12
    go_wp2_with fail
    have s13 := S12.out.new 47 #[.int .i64 U, .slice A6 z.length c6]
    refine (s13.calls (tells13 w1.heap.size w11.heap.size U z A6 c6 _ (s13.blk [_, _, _, _]) (s13.blk []) (own_rd (s13.row [])) (by omega) hU1 (by omega))).mono ?_
    rintro r w12 ⟨rfl, s14⟩
    have S14 := Lib.hid s14
    clear S12 s13 s14
    go_wp2_with fail
    refine (S14.out.calls (join13_nil W.heap.size _)).mono ?_
    rintro r w13 ⟨rfl, s15⟩
    have S15 := Lib.hid s15
    clear S14 s15
    go_wp2_with fail
    refine (S15.out.calls (known13 _)).mono ?_
    rintro r w14 ⟨rfl, s16⟩
    have S16 := Lib.hid s16
    clear S15 s16
    go_wp2_with fail
    have hs1 := S16.out.calls (same13 W.heap.size w6.heap.size T _ _ _ (S16.out.blk [_, _, _, _, _]) (S16.out.blk [_, _, _]) (dns_len _ _) (dns_len _ _))
    rw [show (dns T y == dns T y) = true by simp] at hs1
    refine hs1.mono ?_
    rintro r w15 ⟨rfl, s17⟩
    have S17 := Lib.hid s17
    clear S16 s17 hs1
    go_wp2_with fail
    refine (S17.out.calls (same13_top W.heap.size w1.heap.size T U _ _ _ (S17.out.blk [_, _, _, _, _]) (S17.out.blk [_, _, _, _]) HN.out)).mono ?_
    rintro r w16 ⟨rfl, s18⟩
    have S18 := Lib.hid s18
    clear S17 s18
    go_wp2_with fail
    go_ret
    exact ⟨rfl, S18.out.bel⟩

theorem contract_dropsJoin (W : World) (v0 v1 v2 v3 : Value) (a0 : ∃ a, v0 = .int .i64 a ∧ in64 a) (a1 : ∃ a, v1 = .int .i64 a ∧ in64 a) (a2 : ∃ r : Rw, v2 = r.v ∧ r.ok .i64 W) (a3 : ∃ r : Rw, v3 = r.v ∧ r.ok .i64 W) :
    Calls Try.prog 9 #[v0, v1, v2, v3] W fun e W' => e = .returned (.bool true) ∧ Below W.heap.size W W' := by
  obtain ⟨top, rfl, _⟩ := a0
  obtain ⟨other, rfl, _⟩ := a1
  obtain ⟨l, rfl, hl⟩ := a2
  obtain ⟨o, rfl, ho⟩ := a3
  exact dropsJoin_walk top other l o W hl ho
end Go.Proofs.Ytidphalfafaniaa
