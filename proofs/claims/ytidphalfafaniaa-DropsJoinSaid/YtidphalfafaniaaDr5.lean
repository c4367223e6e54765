/- Contracts: the law's tells and known of layer 13. -/
import Derived.Test.YtidphalfafaniaaDr4
namespace Go.Proofs.Ytidphalfafaniaa
set_option linter.unusedVariables false
open Go.RowKit

theorem arr_cells {w : World} {g : Nat} {t : TypeId} {ns : List Int} (h : Bk w g t (i64s ns).toArray) {k : Nat} {x : Int} (hx : ns[k]? = some x) : w.cell? ⟨g, k, none⟩ = some (.int .i64 x) := by
  rw [h.cell]; simpa using i64s_get hx

set_option maxRecDepth 100000 in
set_option maxHeartbeats 2000000 in
theorem tells13 (g h : Nat) (top : Int) (L : List Int) (A : Option Addr) (c : Nat) (w : World) (hb : Bk w g 101 (dcs top (dns top L))) (hm : Bk w h 47 #[.int .i64 top, .slice A L.length c]) (hr : RI w w.heap.size A L)
    (hl : L.length ≤ 1000000) (ht : 1 ≤ top) (ht' : top ≤ 2147483647) :
    Calls Try.prog 27 #[.pointer (some ⟨g, 0, none⟩), .pointer (some ⟨h, 0, none⟩)] w fun r w' => r = .returned (.bool true) ∧ Below w.heap.size w w' := by
  have HB := Lib.hid hb
  have HM := Lib.hid hm
  have HR := Lib.hid hr
  have HD := Lib.hid (dns_bd ht ht' L)
  have hno : ∀ e : Int, ¬ (1 ≤ e ∧ e ≤ 15) → ofN top L e = 0 := fun e => ofN_no
  have HN := Lib.hid hno
  have hi2 : (Try.prog.info? 51).map (·.size) = some (i64s (dns top L)).toArray.size := by simp only [List.size_toArray, i64s_len, dns_len]; exact info_arr16
  have HI2 := Lib.hid hi2
  have H1 := Lib.hid (all_oneCell_toArray (i64s_one (dns top L)))
  have HT := Lib.hid (And.intro ht ht')
  clear hb hm hr hno hi2 ht ht'
  go_enter Try.func27, Try.ntmps27
  go_wp2_with fail
  refine (all13 g top _ _ HB.out (dns_len _ _)).mono ?_
  rintro r w1 ⟨rfl, b1⟩
  go_wp2_with (refine wpList_store_row rfl _ _ _ rfl w1.heap.size (i64s (dns top L)).toArray rfl rfl 51 _ (heap_alloc_last _ _) HI2.out (by simp [i64s_len, dns_len]) H1.out ?_)
  rw [World.setRow_alloc_new]
  have s0 := ((Mst.start w).below b1).new 51 (i64s (dns top L)).toArray
  go_loopg [5, 6, 7, 9] 16 (fun gg s5 s6 s7 s9 wr => ∃ k : Nat, k + gg = 16 ∧ s9 = .int .i64 k ∧ s5 = .int .i64 (sumK (dns top L) k) ∧ s6 = .int .i64 (wst (dns top L) k).1 ∧ s7 = .int .i64 (wst (dns top L) k).2 ∧ Mst w wr [(w1.heap.size, 51, (i64s (dns top L)).toArray)] [])
  case atStart => exact ⟨0, by omega, rfl, rfl, rfl, rfl, s0⟩
  case round =>
    obtain ⟨k, hk, rfl, rfl, rfl, rfl, s1⟩ := hrel
    by_cases hlt : k < 16
    · have hx := dns_get top L hlt
      have hs := Lib.hid (sumK_step hx)
      have hbd := sumK_bd HD.out k (by rw [dns_len]; omega)
      have hxb := HD.out _ (List.mem_of_getElem? hx)
      have HX := Lib.hid hx
      have hsame : (ofN top L (k : Int) != ofN top L (k : Int)) = false := by simp
      have hw : (wst (dns top L) k).2 < ofN top L (k : Int) ∧ wst (dns top L) (k + 1) = ((k : Int), ofN top L (k : Int)) ∨ ¬ (wst (dns top L) k).2 < ofN top L (k : Int) ∧ wst (dns top L) (k + 1) = wst (dns top L) k := by
        by_cases hq : (wst (dns top L) k).2 < ofN top L (k : Int)
        · exact .inl ⟨hq, wst_yes hx hq⟩
        · exact .inr ⟨hq, wst_no hx hq⟩
      clear hx
      rcases hw with ⟨hq, hw⟩ | ⟨hq, hw⟩
      all_goals
        have HW := Lib.hid hw
        clear hw
        go_wp2_with fail
        refine (s1.calls (ofr13 h top A c L k _ (HM.out.below s1.bel HM.out.lt) (s1.oldRd HR.out) hl HT.out.1)).mono ?_
        rintro r w2 ⟨rfl, s2⟩
        have e0 := arr_cells (s2.blk []) HX.out
        clear s1
        go_wp2_with fail
        refine (s2.calls (of13 g top L k _ (HB.out.below s2.bel HB.out.lt))).mono ?_
        rintro r w3 ⟨rfl, s3⟩
        clear s2 e0
        go_wp2_with fail
        go_roundg (16 - (k + 1))
        case measure => exact meas hk hlt
        case rel => exact ⟨k + 1, meas2 hlt, by go_num, by rw [hs.out] <;> go_num, by rw [HW.out] <;> go_num, by rw [HW.out] <;> go_num, s3⟩
    · obtain rfl : k = 16 := by omega
      clear s0 hlt
      have q1 : (sumK (dns top L) 16 == sumK (dns top L) 16) = true := by simp
      have q2 : ((wst (dns top L) 16).1 == (wst (dns top L) 16).1) = true := by simp
      have q3 : ((wst (dns top L) 16).2 == (wst (dns top L) 16).2) = true := by simp
      go_wp2_with fail
      refine (s1.calls (worst13 g top L _ (HB.out.below s1.bel HB.out.lt))).mono ?_
      rintro r w2 ⟨rfl, s2⟩
      clear s1
      go_wp2_with fail
      refine (s2.calls (total13 g top L _ (HB.out.below s2.bel HB.out.lt) HT.out.1 HT.out.2)).mono ?_
      rintro r w3 ⟨rfl, s3⟩
      clear s2
      go_wp2_with fail
      refine (s3.calls (of13 g top L (-1) _ (HB.out.below s3.bel HB.out.lt))).mono ?_
      rintro r w4 ⟨rfl, s4⟩
      rw [HN.out (-1) (by omega)]
      clear s3
      go_wp2_with fail
      refine (s4.calls (of13 g top L 16 _ (HB.out.below s4.bel HB.out.lt))).mono ?_
      rintro r w5 ⟨rfl, s5⟩
      rw [HN.out 16 (by omega)]
      clear s4
      go_wp2_with fail
      go_ret
      exact ⟨rfl, s5.bel⟩

theorem count13_at (g : Nat) (top : Int) (L l : List Int) (n : Nat) (w : World) {A : Option Addr} {c : Nat} (hb : Bk w g 101 (dcs top (dns top L))) (hr : Rd w w.heap.size 1 A n (i64s l)) (hn : n = l.length) (hf : ∀ b o, A = some ⟨b, o, none⟩ → b ≠ g)
    (hl : l.length ≤ 1000000) (ht : 1 ≤ top) (ht' : top ≤ 2147483647) :
    Calls Try.prog 26 #[.pointer (some ⟨g, 0, none⟩), .slice A n c] w fun r w' => r = .returned (.int .i64 (rsn l : Nat)) ∧ On w w' g ∧ Bk w' g 101 (dcs top (dns top (L ++ l))) := by
  subst hn
  exact count13 g top L A c l w hb hr hf hl ht ht'

set_option maxRecDepth 100000 in
set_option maxHeartbeats 1000000 in
theorem known13 (w : World) : Calls Try.prog 23 #[] w fun r w' => r = .returned (.bool true) ∧ Below w.heap.size w w' := by
  go_enter Try.func23, Try.ntmps23
  go_wp2_with fail
  refine (new13 2 (by omega) (by omega) _).mono ?_
  rintro r w1 ⟨rfl, b1, k1⟩
  have s1 := (Mst.start w).addb b1 k1 (Nat.le_refl _)
  have hsz : w.heap.size < w1.heap.size := k1.lt
  have S1 := Lib.hid s1
  clear b1 k1 s1
  go_wp2_with fail
  have s2 := S1.out.alloc (.cells #[.int .i64 3, .int .i64 3, .int .i64 3, .int .i64 5] 29)
  refine (s2.callsOn [] (count13_at w.heap.size 2 [] [3, 3, 3, 5] 4 _ (s2.blk []) (Rd.new1 _ #[.int .i64 3, .int .i64 3, .int .i64 3, .int .i64 5] _ rfl) rfl (fun b o e => by injection e with e; injection e with e; omega) (by simp) (by omega) (by omega))).mono ?_
  rintro r w2 ⟨rfl, s3⟩
  have h3 : ofN 2 ([] ++ [3, 3, 3, 5]) 3 = 2 := by decide
  have h5 : ofN 2 ([] ++ [3, 3, 3, 5]) 5 = 1 := by decide
  have h6 : sumK (dns 2 ([] ++ [3, 3, 3, 5])) 16 = 3 := by decide
  clear S1 s2
  have H3 := Lib.hid h3
  have H5 := Lib.hid h5
  have H6 := Lib.hid h6
  clear h3 h5 h6
  go_wp2_with fail
  refine (s3.calls (of13 _ 2 _ 3 _ (s3.blk []))).mono ?_
  rintro r w3 ⟨rfl, s4⟩
  rw [H3.out]
  clear s3
  go_wp2_with fail
  refine (s4.calls (of13 _ 2 _ 5 _ (s4.blk []))).mono ?_
  rintro r w3 ⟨rfl, s5⟩
  rw [H5.out]
  clear s4
  go_wp2_with fail
  refine (s5.calls (total13 _ 2 _ _ (s5.blk []) (by omega) (by omega))).mono ?_
  rintro r w3 ⟨rfl, s6⟩
  rw [H6.out]
  clear s5
  go_wp2_with fail
  go_ret
  exact ⟨rfl, s6.bel⟩
end Go.Proofs.Ytidphalfafaniaa
