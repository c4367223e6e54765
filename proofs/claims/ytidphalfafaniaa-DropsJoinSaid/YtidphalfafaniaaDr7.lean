/- Contracts of package drops: each with Join's closure, Join. -/
import Derived.Test.YtidphalfafaniaaDr6
namespace Go.Proofs.Ytidphalfafaniaa
set_option linter.unusedVariables false
open Go.RowKit

/-- The counts when the first k reasons have been joined. -/
def jnL (top : Int) (La Lb : List Int) (k : Nat) : List Int := (List.range 16).map fun (i : Nat) => if 1 ≤ i ∧ i ≤ k then ofN top (La ++ Lb) i else ofN top La i
theorem jnL_len (top : Int) (La Lb : List Int) (k : Nat) : (jnL top La Lb k).length = 16 := by simp [jnL]
theorem jnL_get (top : Int) (La Lb : List Int) {k i : Nat} (hi : i < 16) : (jnL top La Lb k)[i]? = some (if 1 ≤ i ∧ i ≤ k then ofN top (La ++ Lb) i else ofN top La i) := by simp [jnL, hi]
theorem jnL_zero (top : Int) (La Lb : List Int) : jnL top La Lb 0 = dns top La := by
  unfold jnL dns
  apply List.map_congr_left
  intro i _
  rw [if_neg (by omega)]
theorem jnL_end (top : Int) (La Lb : List Int) : jnL top La Lb 15 = dns top (La ++ Lb) := by
  unfold jnL dns
  apply List.map_congr_left
  intro i hi
  simp at hi
  by_cases h : 1 ≤ i
  · rw [if_pos (by omega)]
  · rw [if_neg (by omega), ofN_no (by omega), ofN_no (by omega)]
theorem jnL_step {top : Int} (ht : 1 ≤ top) (La Lb : List Int) {k : Nat} (hk : k < 15) : (jnL top La Lb k).set (k + 1) (min (ofN top La ((k + 1 : Nat) : Int) + ofN top Lb ((k + 1 : Nat) : Int)) top) = jnL top La Lb (k + 1) := by
  apply List.ext_getElem?
  intro i
  by_cases hi : i < 16
  · rw [List.getElem?_set, jnL_len, jnL_get _ _ _ hi, jnL_get _ _ _ hi]
    by_cases h : k + 1 = i
    · subst h
      rw [if_pos rfl, if_pos hi, if_pos (by omega), ofN_yes (by omega), ofN_yes (by omega), ofN_yes (by omega), List.count_append]
      congr 1
      omega
    · rw [if_neg h]
      by_cases h2 : 1 ≤ i ∧ i ≤ k
      · rw [if_pos h2, if_pos (by omega)]
      · rw [if_neg h2, if_neg (by omega)]
  · rw [List.getElem?_eq_none (by simp [jnL_len]; omega), List.getElem?_eq_none (by simp [jnL_len]; omega)]

theorem On.bk' {a w : World} {g g' : Nat} {t : TypeId} {cs : Array Value} (h : On a w g) (hk : Bk a g' t cs) (hne : g' ≠ g) : Bk w g' t cs := h.bk hk hne

set_option maxHeartbeats 1000000 in
/-- What Join does with each reason. -/
theorem joinOne13 (g p q : Nat) (top : Int) (ns al : List Int) (e x y : Int) (w : World) (hb : Bk w g 101 (dcs top ns)) (hp : Bk w p 42 #[.pointer (some ⟨g, 0, none⟩)]) (hq : Bk w q 51 (i64s al).toArray)
    (he : 1 ≤ e ∧ e ≤ 15) (hx : ns[e.toNat]? = some x) (hy : al[e.toNat]? = some y) (hx0 : 0 ≤ x) (hx1 : x ≤ 2147483647) (hn0 : 0 ≤ y) (hn1 : y ≤ 2147483647) (ht : 1 ≤ top) (ht' : top ≤ 2147483647) :
    Calls Try.prog 67 #[.int .i64 e, .pointer (some ⟨p, 0, none⟩), .pointer (some ⟨q, 0, none⟩)] w fun r w' => r = .returned (.tuple #[]) ∧ On w w' g ∧ Bk w' g 101 (dcs top (ns.set e.toNat (min (x + y) top))) := by
  have hc : ∀ w', Below w.heap.size w w' → Calls Try.prog 62 #[.pointer (some ⟨g, 0, none⟩), .int .i64 e, .int .i64 y] w' fun r w2 => r = .returned (.tuple #[]) ∧ On w w2 g ∧ Bk w2 g 101 (dcs top (ns.set e.toNat (min (x + y) top))) := fun w' hw' =>
    (add13 g top ns e y x w' (hb.below hw' hb.lt) he hx hx0 hx1 hn0 hn1 ht ht').mono fun r w2 ⟨h1, h2, h3⟩ => ⟨h1, (On.of_below hw').trans h2, h3⟩
  have c0 := hp.cell 0
  have c1 := arr_cells hq hy
  simp at c0
  obtain ⟨k, rfl⟩ : ∃ k : Nat, e = k := ⟨e.toNat, by omega⟩
  simp only [Int.toNat_natCast] at *
  have hk : k ≤ 15 := by omega
  have HC := Lib.hid hc
  clear hc hb hp hq hx hy
  go_enter Try.func67, Try.ntmps67
  go_region_with (go_at_call 62; refine (HC.out _ (by first | exact Below.refl _ _ | exact (Below.refl _ _).drew | exact Bdn (Below.refl _ _) _)).mono ?_; rintro r w2 ⟨rfl, ho, hk2⟩; have HO := Lib.hid ho; have HK := Lib.hid hk2; clear ho hk2)
  all_goals (try go_wp2)
  all_goals
    go_end0
    first | exact ⟨rfl, HO.out, HK.out⟩ | exact ⟨rfl, HO.out.drew, HK.out.drew⟩ | exact ⟨rfl, HO.out.drewN _, HK.out.drewN _⟩

set_option maxHeartbeats 1000000 in
theorem each13 (g p q : Nat) (top : Int) (La Lb : List Int) (w : World) (hb : Bk w g 101 (dcs top (dns top La))) (hp : Bk w p 42 #[.pointer (some ⟨g, 0, none⟩)]) (hq : Bk w q 51 (i64s (dns top Lb)).toArray)
    (hpg : p ≠ g) (hqg : q ≠ g) (ht : 1 ≤ top) (ht' : top ≤ 2147483647) :
    Calls Try.prog 66 #[.func (.func 67) #[] #[.pointer (some ⟨p, 0, none⟩), .pointer (some ⟨q, 0, none⟩)]] w fun r w' => r = .returned (.tuple #[]) ∧ On w w' g ∧ Bk w' g 101 (dcs top (dns top (La ++ Lb))) := by
  have HB := Lib.hid hb
  have HP := Lib.hid hp
  have HQ := Lib.hid hq
  have HN := Lib.hid (And.intro hpg hqg)
  clear hb hp hq hpg hqg
  go_enter Try.func66, Try.ntmps66
  go_wp2_with fail
  go_loopg [2] 15 (fun gg s2 wr => ∃ k : Nat, k + gg = 15 ∧ s2 = .int .i64 (k + 1 : Nat) ∧ On w wr g ∧ Bk wr g 101 (dcs top (jnL top La Lb k)))
  case atStart => exact ⟨0, by omega, rfl, On.refl _ _, by rw [jnL_zero]; exact HB.out⟩
  case round =>
    obtain ⟨k, hk, rfl, ho, hbk⟩ := hrel
    have HO := Lib.hid ho
    have HK := Lib.hid hbk
    clear ho hbk
    by_cases hlt : k < 15
    · have hc : Calls Try.prog 67 #[.int .i64 ((k + 1 : Nat) : Int), .pointer (some ⟨p, 0, none⟩), .pointer (some ⟨q, 0, none⟩)] wr fun r w' => r = .returned (.tuple #[]) ∧ On w w' g ∧ Bk w' g 101 (dcs top (jnL top La Lb (k + 1))) := by
        have hg1 := jnL_get top La Lb (k := k) (i := k + 1) (by omega)
        rw [if_neg (by omega)] at hg1
        have hg2 := dns_get top Lb (k := k + 1) (by omega)
        have a1 := ofN_lo ht La ((k + 1 : Nat) : Int)
        have a2 := ofN_hi ht La ((k + 1 : Nat) : Int)
        have a3 := ofN_lo ht Lb ((k + 1 : Nat) : Int)
        have a4 := ofN_hi ht Lb ((k + 1 : Nat) : Int)
        refine (joinOne13 g p q top _ _ ((k + 1 : Nat) : Int) _ _ wr HK.out (HO.out.bk HP.out HN.out.1) (HO.out.bk HQ.out HN.out.2) (by omega) hg1 hg2 a1 (by omega) a3 (by omega) ht ht').mono ?_
        rintro r w' ⟨h1, h2, h3⟩
        refine ⟨h1, HO.out.trans h2, ?_⟩
        have := jnL_step ht La Lb hlt
        rw [Int.toNat_natCast, this] at h3
        exact h3
      have HC := Lib.hid hc
      clear hc
      have hk1 : ((k + 1 : Nat) : Int) ≤ 15 := by omega
      go_wp2_with (go_at_call 67; refine HC.out.mono ?_; rintro r w2 ⟨rfl, ho2, hk2⟩; have HO2 := Lib.hid ho2; have HK2 := Lib.hid hk2; clear ho2 hk2)
      go_roundg (15 - (k + 1))
      case measure => exact meas hk hlt
      case rel => exact ⟨k + 1, meas2 hlt, by go_num, HO2.out, HK2.out⟩
    · obtain rfl : k = 15 := by omega
      have hend : Hid (dns top (La ++ Lb) = jnL top La Lb 15) := (jnL_end top La Lb).symm
      go_wp2_with fail
      go_end0
      exact ⟨rfl, HO.out, by rw [hend.out]; exact HK.out⟩

set_option maxRecDepth 100000 in
set_option maxHeartbeats 1000000 in
theorem join13 (g h : Nat) (top : Int) (La Lb : List Int) (w : World) (hb : Bk w g 101 (dcs top (dns top La))) (hh : Bk w h 101 (dcs top (dns top Lb))) (hgh : g ≠ h) (ht : 1 ≤ top) (ht' : top ≤ 2147483647) :
    Calls Try.prog 36 #[.pointer (some ⟨g, 0, none⟩), .pointer (some ⟨h, 0, none⟩)] w fun r w' => r = .returned (.int .i64 0) ∧ On w w' g ∧ Bk w' g 101 (dcs top (dns top (La ++ Lb))) := by
  have c0 : w.cell? ⟨g, 0, none⟩ = some (.int .i64 top) := by rw [hb.cell]; exact dcs_top _ _
  have c1 : w.cell? ⟨h, 0, none⟩ = some (.int .i64 top) := by rw [hh.cell]; exact dcs_top _ _
  have hi2 : (Try.prog.info? 51).map (·.size) = some (i64s (dns top Lb)).toArray.size := by simp only [List.size_toArray, i64s_len, dns_len]; exact info_arr16
  have HI2 := Lib.hid hi2
  have H1 := Lib.hid (all_oneCell_toArray (i64s_one (dns top Lb)))
  have hgl := hb.lt
  have hhl := hh.lt
  have htt : (top != top) = false := by simp
  have HB := Lib.hid hb
  have HH := Lib.hid hh
  have HN := Lib.hid hgh
  clear hb hh hgh hi2
  go_enter Try.func36, Try.ntmps36
  have s0 := (Mst.start w).new 42 #[.pointer (some ⟨g, 0, none⟩)]
  go_wp2_with fail
  go_quiet (fail)
  go_wp2_with fail
  refine ((s0.drewN _).calls (all13 h top (dns top Lb) _ (HH.out.below (s0.drewN _).bel HH.out.lt) (dns_len _ _))).mono ?_
  rintro r w2 ⟨rfl, s1⟩
  have q0 := (s1.blk []).cell 0
  simp at q0
  go_wp2_with (refine wpList_store_row rfl _ _ _ rfl w2.heap.size (i64s (dns top Lb)).toArray rfl rfl 51 _ (heap_alloc_last _ _) HI2.out (by simp [i64s_len, dns_len]) H1.out ?_)
  rw [World.setRow_alloc_new]
  have s2 := s1.new 51 (i64s (dns top Lb)).toArray
  have hsz := s1.bel.size
  clear s0 s1 q0
  refine (each13 g w.heap.size w2.heap.size top La Lb _ (HB.out.below s2.bel HB.out.lt) (s2.blk [_]) (s2.blk []) (by omega) (by omega) ht ht').mono ?_
  rintro r w3 ⟨rfl, o3, k3⟩
  have O3 := Lib.hid ((On.of_below s2.bel).trans o3)
  have K3 := Lib.hid k3
  clear o3 k3 s2
  go_wp2_with fail
  go_ret
  exact ⟨rfl, O3.out, K3.out⟩

set_option maxRecDepth 100000 in
theorem join13_no (g h : Nat) (top top' : Int) (ns ns' : List Int) (w : World) (hb : Bk w g 101 (dcs top ns)) (hh : Bk w h 101 (dcs top' ns')) (hne : top ≠ top') :
    Calls Try.prog 36 #[.pointer (some ⟨g, 0, none⟩), .pointer (some ⟨h, 0, none⟩)] w fun r w' => r = .returned (.int .i64 11) ∧ Below w.heap.size w w' := by
  have c0 : w.cell? ⟨g, 0, none⟩ = some (.int .i64 top) := by rw [hb.cell]; exact dcs_top _ _
  have c1 : w.cell? ⟨h, 0, none⟩ = some (.int .i64 top') := by rw [hh.cell]; exact dcs_top _ _
  have hgl := hb.lt
  have hhl := hh.lt
  have htt : (top != top') = true := by simpa using hne
  clear hb hh hne
  go_enter Try.func36, Try.ntmps36
  go_wp2_with fail
  go_quiet (fail)
  go_wp2_with fail
  go_ret
  exact ⟨rfl, Bdn ((Below.refl _ _).alloc (Nat.le_refl _) _) _⟩

theorem join13_nil (g : Nat) (w : World) :
    Calls Try.prog 36 #[.pointer (some ⟨g, 0, none⟩), .pointer none] w fun r w' => r = .returned (.int .i64 1) ∧ Below w.heap.size w w' := by
  go_enter Try.func36, Try.ntmps36
  go_wp2_with fail
  go_ret
  exact ⟨rfl, (Below.refl _ _).alloc (Nat.le_refl _) _⟩

set_option maxRecDepth 100000 in
theorem same13_top (g h : Nat) (top top' : Int) (ns ns' : List Int) (w : World) (hb : Bk w g 101 (dcs top ns)) (hh : Bk w h 101 (dcs top' ns')) (hne : top ≠ top') :
    Calls Try.prog 37 #[.pointer (some ⟨g, 0, none⟩), .pointer (some ⟨h, 0, none⟩)] w fun r w' => r = .returned (.bool false) ∧ Below w.heap.size w w' := by
  have c0 : w.cell? ⟨g, 0, none⟩ = some (.int .i64 top) := by rw [hb.cell]; exact dcs_top _ _
  have c1 : w.cell? ⟨h, 0, none⟩ = some (.int .i64 top') := by rw [hh.cell]; exact dcs_top _ _
  have htt : (top == top') = false := by simpa using hne
  clear hb hh hne
  go_enter Try.func37, Try.ntmps37
  go_wp2_with fail
  go_quiet (fail)
  go_wp2_with fail
  go_ret
  exact ⟨rfl, Bdn (Below.refl _ _) _⟩

end Go.Proofs.Ytidphalfafaniaa
