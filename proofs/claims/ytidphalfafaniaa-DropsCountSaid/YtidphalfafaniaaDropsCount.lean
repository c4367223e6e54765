/- DropsCount: the walk of the law: whatever is counted, in however many pieces, the counts are the document's; a count never falls. -/
import Derived.Test.YtidphalfafaniaaDr5
import Derived.Test.YtidphalfafaniaaJoin
import Derived.Test.YtidphalfafaniaaOpen2
namespace Go.Proofs.Ytidphalfafaniaa
set_option linter.unusedVariables false
open Go.RowKit

theorem el_int_row {w : World} {B : Nat} {A : Option Addr} {n : Nat} {xs : List Value} (h : Rd w B 1 A n xs) {l : List Int} (hx : xs = i64s l) (hn : n = l.length) : RI w B A l := by subst hx hn; exact h

namespace DCount
def R (W : World) (top : Int) (g h : Nat) (k : Nat) (wr : World) : Prop :=
  ∃ A c L, L.length ≤ 20 * k ∧ Mst W wr [(h, 47, #[.int .i64 top, .slice A L.length c]), (g, 101, dcs top (dns top L))] [⟨3, 1, .slice A L.length c, L.length, i64s L⟩]
theorem R_mk {W : World} {top : Int} {g h k : Nat} {wr : World} {A : Option Addr} {c : Nat} {L : List Int} (h1 : L.length ≤ 20 * k)
    (h2 : Mst W wr [(h, 47, #[.int .i64 top, .slice A L.length c]), (g, 101, dcs top (dns top L))] [⟨3, 1, .slice A L.length c, L.length, i64s L⟩]) : R W top g h k wr := ⟨A, c, L, h1, h2⟩
end DCount
open DCount

set_option maxRecDepth 100000 in
set_option maxHeartbeats 4000000 in
theorem dropsCount_no (top : Int) (v1 : Value) (W : World) (ht : ¬ (1 ≤ top ∧ top ≤ 2147483647)) :
    Calls Try.prog 5 #[.int .i64 top, v1] W fun e W' => e = .returned (.bool true) ∧ Below W.heap.size W W' := by
  have HT := Lib.hid ht
  have hc : top < 1 ∨ (1 ≤ top ∧ 2147483647 < top) := by omega
  clear ht
  rcases hc with h1 | ⟨h1, h2⟩
  all_goals
    go_enter Try.func5, Try.ntmps5
    go_wp2_with fail
    refine (new13_no top HT.out _).mono ?_
    rintro r w1 ⟨rfl, b1⟩
    go_wp2_with fail
    refine (known13 _).mono ?_
    rintro r w2 ⟨rfl, b2⟩
    go_wp2_with fail
    go_ret
    exact ⟨rfl, Bsz b1 b2⟩

set_option maxRecDepth 100000 in
set_option maxHeartbeats 4000000 in
theorem dropsCount_walk (top : Int) (A : Option Addr) (c : Nat) (rows : List Rw) (W : World) (hr : Rd W W.heap.size 1 A rows.length (rows.map Rw.v)) (hok : ∀ x ∈ rows, x.ok .i64 W) (hlen : rows.length ≤ maxLen) (ht : 1 ≤ top) (ht' : top ≤ 2147483647) :
    Calls Try.prog 5 #[.int .i64 top, .slice A rows.length c] W fun e W' => e = .returned (.bool true) ∧ Below W.heap.size W W' := by
  unfold maxLen at hlen
  have HR := Lib.hid hr
  have HO := Lib.hid hok
  have hi2 : ∀ L : List Int, (Try.prog.info? 51).map (·.size) = some (i64s (dns top L)).toArray.size := by
    intro L
    simp only [List.size_toArray, i64s_len, dns_len]; exact info_arr16
  have HI2 := Lib.hid hi2
  have H1 := Lib.hid fun L : List Int => all_oneCell_toArray (i64s_one (dns top L))
  clear hr hok hi2
  obtain ⟨N, hN1, hN2, hN3⟩ : ∃ N : Nat, N ≤ rows.length ∧ N ≤ 8 ∧ (N = rows.length ∨ N = 8) := ⟨min rows.length 8, by omega, by omega, by omega⟩
  go_enter Try.func5, Try.ntmps5
  go_wp2_with fail
  refine (new13 top ht ht' _).mono ?_
  rintro r w1 ⟨rfl, b1, k1⟩
  have hsz : W.heap.size < w1.heap.size := k1.lt
  have s1 := ((Mst.start W).addb b1 k1 (Nat.le_refl _)).new 47 #[.int .i64 top, .slice none 0 0]
  have S1 := Lib.hid (s1.nilrow 3 1)
  clear b1 k1 s1
  go_wp2_with fail
  go_loopg [8] N (fun gg s8 wr => ∃ k : Nat, k + gg = N ∧ s8 = .int .i64 k ∧ R W top W.heap.size w1.heap.size k wr)
  case atStart => exact ⟨0, by omega, rfl, R_mk (L := []) (by simp) S1.out⟩
  case round =>
    obtain ⟨k, hk, rfl, hR⟩ := hrel
    clear S1
    obtain ⟨A2, c2, L, hL, s0⟩ := hR
    by_cases hlt : k < rows.length ∧ k < 8
    · obtain ⟨hlt1, hlt2⟩ := hlt
      have HK := Lib.hid (show k < N from by omega)
      obtain ⟨b, o, hA, hbB, hc⟩ := HR.out.at_ (by omega)
      have hkl : k < (rows.map Rw.v).length := by simpa using hlt1
      have e0 : s0.bel.size = s0.bel.size := rfl
      clear e0
      have e0 := s0.old hbB (hc k hkl)
      obtain ⟨rw_, hrw⟩ : ∃ x, rows[k]? = some x := ⟨_, List.getElem?_eq_getElem hlt1⟩
      have hve : (rows.map Rw.v)[k] = .slice rw_.A rw_.zs.length rw_.c := by
        have : (rows.map Rw.v)[k]? = some rw_.v := by simp [hrw]
        rw [List.getElem?_eq_getElem hkl] at this
        injection this
      rw [hve] at e0
      have hokr := HO.out rw_ (List.mem_of_getElem? hrw)
      obtain ⟨hle, hcap, hrd, _⟩ := hokr
      have HRD := Lib.hid hrd
      have hzl : rw_.zs.length ≤ maxLen := Nat.le_trans hle hcap
      clear hc hve hrd hkl hrw
      subst hA
      go_wp2_with fail
      refine (to13 rw_.A rw_.c rw_.zs _ (s0.oldRd HRD.out) hzl).mono ?_
      rintro r w2 ⟨A3, c3, A4, c4, n, rfl, hn, t0⟩
      have s2 := s0.join t0
      have hn20 : n ≤ 20 := by rw [hn, List.length_take]; omega
      have HN := Lib.hid hn
      obtain ⟨y, hy⟩ : ∃ y, rw_.zs.take 20 = y := ⟨_, rfl⟩
      rw [hy] at s2 HN
      have hn' := HN.out
      subst hn'
      clear s0 t0 hn HN e0
      go_wp2_with fail
      refine (s2.calls (all13 W.heap.size top (dns top L) _ (s2.blk [_]) (dns_len _ _))).mono ?_
      rintro r w3 ⟨rfl, s3⟩
      clear s2
      go_wp2_with (refine wpList_store_row rfl _ _ _ rfl w3.heap.size (i64s (dns top L)).toArray rfl rfl 51 _ (heap_alloc_last _ _) (HI2.out L) (by simp [i64s_len, dns_len]) (H1.out L) ?_)
      rw [World.setRow_alloc_new]
      have s4 := s3.new 51 (i64s (dns top L)).toArray
      have hL2 : L.length ≤ 160 := by omega
      clear s3
      simp only [List.nil_append, List.cons_append] at s4
      have S4 := Lib.hid s4
      go_loopg [12, 13] y.length (fun gg s12 s13 wx => ∃ j : Nat, j + gg = y.length ∧ s13 = .int .i64 j ∧ s12 = .int .i64 (rsn (y.take j) : Nat) ∧ wx = w3.alloc (.cells (i64s (dns top L)).toArray 51))
      case atStart => exact ⟨0, by omega, rfl, rfl, rfl⟩
      case round =>
        obtain ⟨j, hj, rfl, rfl, rfl⟩ := hrel
        have hrl := Nat.le_trans (rsn_le (y.take j)) (List.length_take_le _ _)
        by_cases hjl : j < y.length
        · obtain ⟨b4, o4, hA4, hb4, hc4⟩ := RI.at_ (l := y) (own_rd (s4.row [])) (by omega)
          obtain ⟨x, hx⟩ : ∃ x, y[j]? = some x := ⟨_, List.getElem?_eq_getElem hjl⟩
          have e0 := hc4 j x hx
          have hcs : (1 ≤ x ∧ x ≤ 15 ∧ rsn (y.take (j + 1)) = rsn (y.take j) + 1) ∨ (x < 1 ∧ rsn (y.take (j + 1)) = rsn (y.take j)) ∨ (1 ≤ x ∧ 15 < x ∧ rsn (y.take (j + 1)) = rsn (y.take j)) := by
            by_cases q : 1 ≤ x ∧ x ≤ 15
            · exact .inl ⟨q.1, q.2, rsn_yes hx q⟩
            · have := rsn_no hx q
              omega
          clear hc4 hx s4
          subst hA4
          rcases hcs with ⟨q1, q2, q3⟩ | ⟨q1, q3⟩ | ⟨q1, q2, q3⟩
          all_goals
            have Q3 := Lib.hid q3
            clear q3
            go_wp2_with fail
            go_roundg (y.length - (j + 1))
            case measure => exact meas hj hjl
            case rel => exact ⟨j + 1, meas2 hjl, by go_num, by rw [Q3.out] <;> go_num, rfl⟩
        · obtain rfl : j = y.length := by omega
          have c0 := (s4.blk [_]).cell 0
          have c1 := (s4.blk [_]).cell 1
          have f1 := (s4.blk [_]).fr 1
          simp at c0 c1
          clear s4 hjl hrl
          go_wp2_with (at_builtin; refine wpList_appM rfl _ _ 37 rfl [_, _] S4.out el_int rfl _ _ _ _ (i64s y) rfl (own_rd (S4.out.row [])) (i64s_one _) (by unfold maxLen; omega) (by omega) ?_; intro A5 c5 w5 s5; have f2 := (s5.blk [_]).fr 1; have c2 := (s5.blk [_]).cell 1; simp at c2; have S5 := Lib.hid s5; clear s5)
          clear c0 c1 c2 f1 f2
          have s6 := S5.out.put [_] 1 (.slice A5 (L.length + y.length) c5)
          clear S4 S5
          refine (s6.callsOn [_, _] (count13_at W.heap.size top L y y.length _ (s6.blk [_, _]) (own_rd (s6.row [_])) rfl (s6.row_ne (e := 29) (size := 1) (n := y.length) (xs := i64s y) (v := .slice A3 y.length c3) (A := A3) (m := y.length) (c := c3) (t := 101) (cs := dcs top (dns top L)) (by simp) (by simp) rfl) (by omega) ht ht')).mono ?_
          rintro r w7 ⟨rfl, s7⟩
          clear s6
          have hLy : L.length + y.length = (L ++ y).length := by simp
          have hiy : i64s L ++ i64s y = i64s (L ++ y) := by simp [i64s]
          rw [hLy, hiy] at s7
          have hne : (((rsn y : Nat) : Int) != ((rsn y : Nat) : Int)) = false := by simp
          have HL := Lib.hid hLy
          clear hiy hLy
          go_wp2_with fail
          refine (s7.calls (tells13 W.heap.size w1.heap.size top (L ++ y) A5 c5 _ (s7.blk [_, _]) (s7.blk [_]) (own_rd (s7.row [_, _])) (by simp; omega) ht ht')).mono ?_
          rintro r w8 ⟨rfl, s8⟩
          clear s7
          go_wp2_with fail
          refine (s8.calls (all13 W.heap.size top (dns top (L ++ y)) _ (s8.blk [_, _]) (dns_len _ _))).mono ?_
          rintro r w9 ⟨rfl, s9⟩
          clear s8
          go_wp2_with (refine wpList_store_row rfl _ _ _ rfl w9.heap.size (i64s (dns top (L ++ y))).toArray rfl rfl 51 _ (heap_alloc_last _ _) (HI2.out _) (by simp [i64s_len, dns_len]) (H1.out _) ?_)
          rw [World.setRow_alloc_new]
          have s10 := s9.new 51 (i64s (dns top (L ++ y))).toArray
          clear s9
          go_loopg [15] 16 (fun gg s15 wx => ∃ j : Nat, j + gg = 16 ∧ s15 = .int .i64 j ∧ Mst W wx [(w9.heap.size, 51, (i64s (dns top (L ++ y))).toArray), (w3.heap.size, 51, (i64s (dns top L)).toArray), (w1.heap.size, 47, #[.int .i64 top, .slice A5 (L ++ y).length c5]), (W.heap.size, 101, dcs top (dns top (L ++ y)))] [⟨3, 1, .slice A5 (L ++ y).length c5, (L ++ y).length, i64s (L ++ y)⟩])
          case atStart => exact ⟨0, by omega, rfl, s10.sub (List.Sublist.refl _) (by simp)⟩
          case round =>
            obtain ⟨j, hj, rfl, s11⟩ := hrel
            clear s10
            by_cases hjl : j < 16
            · have e0 := arr_cells (s11.blk []) (dns_get top (L ++ y) hjl)
              have e1 := arr_cells (s11.blk [_]) (dns_get top L hjl)
              have hmo := ofN_mono ht L y (j : Int)
              have S11 := Lib.hid s11
              clear s11
              go_wp2_with fail
              go_quiet (fail)
              go_wp2_with fail
              go_roundg (16 - (j + 1))
              case measure => exact meas hj hjl
              case rel => exact ⟨j + 1, meas2 hjl, by go_num, S11.out.drewN _⟩
            · have S11 := Lib.hid s11
              clear s11
              go_wp2_with fail
              go_roundg (N - (k + 1))
              case measure => exact meas hk HK.out
              case rel => exact ⟨k + 1, meas2 HK.out, by go_num, R_mk (L := L ++ y) (by simp; omega) (S11.out.sub (by simp) (List.Sublist.refl _))⟩
    · go_wp2_with fail
      all_goals
        refine (known13 _).mono ?_
        rintro r w2 ⟨rfl, b2⟩
        go_wp2_with fail
        go_ret
        exact ⟨rfl, (s0.below b2).bel⟩

theorem contract_dropsCount (W : World) (v0 v1 : Value) (a0 : ∃ a, v0 = .int .i64 a ∧ in64 a)
    (a1 : ∃ A c, ∃ rows : List Rw, v1 = .slice A rows.length c ∧ rows.length ≤ c ∧ c ≤ maxLen ∧ Rd W W.heap.size 1 A rows.length (rows.map Rw.v) ∧ ∀ x ∈ rows, x.ok .i64 W) :
    Calls Try.prog 5 #[v0, v1] W fun e W' => e = .returned (.bool true) ∧ Below W.heap.size W W' := by
  obtain ⟨top, rfl, _⟩ := a0
  by_cases ht : 1 ≤ top ∧ top ≤ 2147483647
  · obtain ⟨A, c, rows, rfl, h1, h2, h3, h4⟩ := a1
    exact dropsCount_walk top A c rows W h3 h4 (Nat.le_trans h1 h2) ht.1 ht.2
  · exact dropsCount_no top v1 W ht
end Go.Proofs.Ytidphalfafaniaa
