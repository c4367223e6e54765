/- The law's cut, the chapter's example. -/
import Derived.Test.YtiakgohipnbdbaaSr5
import Derived.Test.YtiakgohipnbdbaaExtC
namespace Go.Proofs.Ytiakgohipnbdbaa
set_option linter.unusedVariables false
set_option linter.unusedSimpArgs false
open Go.RowKit

theorem trn_trn : ∀ (b s : List UInt8), b.length ≤ s.length → trn (trn b s) s = b
  | [], _, _ => rfl
  | x :: b, [], h => by simp at h
  | x :: b, y :: s, h => by
    have ih := trn_trn b s (by simpa using h)
    simp only [trn, List.zipWith_cons_cons] at ih ⊢
    rw [ih, UInt8.xor_assoc, UInt8.xor_self, UInt8.xor_zero]
theorem bodyB_bodyB (kb nc b : List UInt8) : bodyB kb nc (bodyB kb nc b) = b := by
  have h := bodyB_len kb nc b
  rw [bodyB, h, bodyB, trn_trn]
  rw [strB_len]
  exact Nat.le_refl _
theorem sealB_take (kb nc bd b : List UInt8) : (sealB kb nc bd b).take b.length = bodyB kb nc b := by
  rw [sealB, List.take_append_of_le_length (by rw [bodyB_len]; exact Nat.le_refl _), List.take_of_length_le (by rw [bodyB_len]; exact Nat.le_refl _)]
theorem sealB_drop (kb nc bd b : List UInt8) : (sealB kb nc bd b).drop b.length = sTag kb nc bd (bodyB kb nc b) := by
  have h := bodyB_len kb nc b
  rw [sealB, ← h, List.drop_left]
/-- What is sealed is opened as it was. -/
theorem opE_seal (kb nc bd b : List UInt8) (h : nc.length ≤ 32) : opE kb nc bd (sealB kb nc bd b) = (b, 0) := by
  have hl := sealB_len kb nc bd b
  rw [opE_ok h (by omega)]
  · rw [opL, hl, show b.length + 32 - 32 = b.length from rfl, sealB_take, bodyB_bodyB]
  · rw [opOk, hl, show b.length + 32 - 32 = b.length from rfl, sealB_take, sealB_drop]
    simp

theorem cut03_any (w : World) (A : Option Addr) (l : List UInt8) (c M : Nat) (hc : l.length ≤ c ∧ c ≤ 9223372036854775807) (hM : M ≤ 100000) :
    Calls Try.prog 39 #[.slice A l.length c, .int .i64 (M : Int)] w fun e w' => e = .returned (.slice A (l.take M).length c) ∧ w = w' := by
  rw [List.length_take]
  obtain ⟨N, hN⟩ : ∃ N, l.length = N := ⟨_, rfl⟩
  rw [hN] at hc ⊢
  obtain ⟨hc1, hc2⟩ := hc
  rw [Nat.min_comm]
  clear hN
  by_cases hlt : N ≤ M
  · rw [Nat.min_eq_left hlt]
    have h1 : min (N : Int) (M : Int) = N := by omega
    have h2 : (0 : Int) ≤ N := by omega
    have h3 : (N : Int) ≤ c := by omega
    have h4 : ¬ (M : Int) < N := by omega
    go_enter Try.func39, Try.ntmps39
    go_wp2
    go_ret
    exact ⟨rfl, rfl⟩
  · rw [Nat.min_eq_right (by omega)]
    have h1 : min (N : Int) (M : Int) = M := by omega
    have h2 : (0 : Int) ≤ M := by omega
    have h3 : (M : Int) ≤ c := by omega
    have h4 : (M : Int) < N := by omega
    go_enter Try.func39, Try.ntmps39
    go_wp2
    go_ret
    exact ⟨rfl, rfl⟩
abbrev keyL3 : List UInt8 := [107, 101, 121]
abbrev nL1 : List UInt8 := [110]
abbrev secL : List UInt8 := [115, 101, 99, 114, 101, 116]
set_option maxRecDepth 100000 in
set_option maxHeartbeats 1600000 in
theorem known03 (w : World) : Calls Try.prog 43 #[] w fun e w' => e = .returned (.bool true) ∧ Below w.heap.size w w' := by
  have HNW := Lib.hid (show ∀ w' g, RB w' w'.heap.size (some ⟨g, 0, none⟩) keyL3 → Calls Try.prog 41 #[.slice (some ⟨g, 0, none⟩) 3 3] w' fun e w2 => ∃ gk, e = .returned (.pointer (some ⟨gk, 0, none⟩)) ∧ KeyW w2 gk keyL3 ∧ Below w'.heap.size w' w2 from fun w' g h => new_any w' (some ⟨g, 0, none⟩) 3 keyL3 h (by decide))
  have HSL := Lib.hid (show ∀ w' gk g g2, KeyW w' gk keyL3 → RB w' w'.heap.size (some ⟨g, 0, none⟩) nL1 → RB w' w'.heap.size (some ⟨g2, 0, none⟩) secL → Calls Try.prog 44 #[.pointer (some ⟨gk, 0, none⟩), .slice (some ⟨g, 0, none⟩) 1 1, .slice none 0 0, .slice (some ⟨g2, 0, none⟩) 6 6] w' fun e w2 => ∃ A' c', e = .returned (.tuple #[.slice A' 38 c', .int .i64 0]) ∧ 38 ≤ c' ∧ c' ≤ 9223372036854775807 ∧ Below w'.heap.size w' w2 ∧ NewB w' w2 A' (sealB keyL3 nL1 [] secL) from fun w' gk g g2 h1 h2 h3 => seal_any w' gk keyL3 h1 (by decide) (some ⟨g, 0, none⟩) 1 nL1 h2 (by decide) none 0 [] (Rd.nil_ _ _ _ _) (by decide) (some ⟨g2, 0, none⟩) 6 secL h3 (by decide))
  have hop := opE_seal keyL3 nL1 [] secL (by decide)
  have hsl : (sealB keyL3 nL1 [] secL).length = 38 := sealB_len _ _ _ _
  obtain ⟨SE, hSE⟩ : ∃ l, sealB keyL3 nL1 [] secL = l := ⟨_, rfl⟩
  rw [hSE] at HSL hop hsl
  have HOP := Lib.hid (show ∀ w' gk g A' c', KeyW w' gk keyL3 → RB w' w'.heap.size (some ⟨g, 0, none⟩) nL1 → RB w' w'.heap.size A' SE → 38 ≤ c' → c' ≤ 9223372036854775807 → Calls Try.prog 40 #[.pointer (some ⟨gk, 0, none⟩), .slice (some ⟨g, 0, none⟩) 1 1, .slice none 0 0, .slice A' 38 c'] w' (RetE w' (secL, 0)) from fun w' gk g A' c' h1 h2 h3 h4 h5 => by
    have := open_all w' gk keyL3 h1 (by decide) (some ⟨g, 0, none⟩) 1 nL1 h2 none 0 [] (Rd.nil_ _ _ _ _) (by decide) A' c' SE h3 (by rw [hsl]; decide) (by rw [hsl]; exact h4) h5
    rw [hop, hsl] at this
    exact this)
  clear hSE hop hsl
  go_enter Try.func43, Try.ntmps43
  have L := Lib.hid (Lv.start w)
  go_wp2_with (first | ((with_reducible refine wpList_markL rfl _ _ rfl 3 3 _ _ rfl Try.underlying24 Try.underlying5 keyL3 rfl ?_); intro w2 hb hr; have L := Lib.hid ((L.out.keep hb).add hr); clear hb hr))
  refine (HNW.out _ _ (L.out.r (by simp))).mono ?_
  rintro e w3 ⟨gk, rfl, hk, hb⟩
  have L := Lib.hid ((L.out.keep hb).addk hk)
  clear hk hb
  go_wp2_with (first | ((with_reducible refine wpList_markL rfl _ _ rfl 1 1 _ _ rfl Try.underlying24 Try.underlying5 nL1 rfl ?_); intro w4 hb hr; have L := Lib.hid ((L.out.keep hb).add hr); clear hb hr) | ((with_reducible refine wpList_markL rfl _ _ rfl 6 6 _ _ rfl Try.underlying24 Try.underlying5 secL rfl ?_); intro w5 hb hr; have L := Lib.hid ((L.out.keep hb).add hr); clear hb hr))
  refine (HSL.out _ _ _ _ (L.out.k (by simp)) (L.out.r (by simp)) (L.out.r (by simp))).mono ?_
  rintro e w6 ⟨A6, c6, rfl, hc6, hc7, hb, hnb⟩
  have L := Lib.hid ((L.out.keep hb).add hnb.rb)
  clear hb hnb
  go_wp2_with (first | ((with_reducible refine wpList_markL rfl _ _ rfl 3 3 _ _ rfl Try.underlying24 Try.underlying5 keyL3 rfl ?_); intro w7 hb hr; have L := Lib.hid ((L.out.keep hb).add hr); clear hb hr))
  refine (HNW.out _ _ (L.out.r (by simp))).mono ?_
  rintro e w8 ⟨gk2, rfl, hk, hb⟩
  have L := Lib.hid ((L.out.keep hb).addk hk)
  clear hk hb
  go_wp2_with (first | ((with_reducible refine wpList_markL rfl _ _ rfl 1 1 _ _ rfl Try.underlying24 Try.underlying5 nL1 rfl ?_); intro w9 hb hr; have L := Lib.hid ((L.out.keep hb).add hr); clear hb hr))
  refine (HOP.out _ _ _ _ _ (L.out.k (by simp)) (L.out.r (by simp)) (L.out.r (by simp)) hc6 hc7).mono ?_
  rintro e w10 ⟨A10, c10, rfl, hb, hnb⟩
  have L := Lib.hid ((L.out.keep hb).add hnb.rb)
  have HC := Lib.hid (show (convert 24 9 (.slice A10 6 c10)).run Try.prog w10 = .ok (.string ⟨#[115, 101, 99, 114, 101, 116]⟩) w10 from run_string (P := Try.prog) w10 24 9 5 A10 6 c10 secL Try.underlying24 Try.underlying5 Try.underlying9 hnb.rb rfl (by decide))
  clear hb hnb
  go_wp2_with (first | refine wpList_convG rfl _ _ _ rfl _ _ rfl HC.out ?_)
  go_ret
  exact ⟨rfl, L.out.bel⟩

theorem refopen_all (KT : Array Value) (hKT : RSum KT) (w : World) (Ak : Option Addr) (ck : Nat) (key : List UInt8) (hk : RB w w.heap.size Ak key) (hkl : key.length ≤ 1000) (A : Option Addr) (c : Nat) (nc : List UInt8) (hr : RB w w.heap.size A nc)
    (Ad : Option Addr) (cd : Nat) (bd : List UInt8) (hrd : RB w w.heap.size Ad bd) (hnd : bd.length ≤ 1000) (As : Option Addr) (cs : Nat) (l : List UInt8) (hrs : RB w w.heap.size As l) (hl2 : l.length ≤ 1000) (hcs : l.length ≤ cs) (hcs2 : cs ≤ 9223372036854775807) :
    Calls Try.prog 42 #[.agg KT, .slice Ak key.length ck, .slice A nc.length c, .slice Ad bd.length cd, .slice As l.length cs] w (RetE w (opE key nc bd l)) := by
  by_cases h1 : 32 < nc.length
  · rw [opE_arg h1]
    refine (refopen_arg KT w _ _ A nc.length c As l.length cs h1).mono ?_
    rintro e w' ⟨h, hb⟩
    exact RetE.nil h hb
  · by_cases h2 : l.length < 32
    · rw [opE_end (by omega) h2]
      refine (refopen_end KT w _ _ A nc.length c As l.length cs (by omega) h2).mono ?_
      rintro e w' ⟨h, hb⟩
      exact RetE.nil h hb
    · exact refopen_any KT hKT w Ak ck key hk hkl A c nc hr (by omega) Ad cd bd hrd hnd As cs l hrs (by omega) hl2 hcs hcs2
/-- A slice that is cut. -/
theorem cut_ex {W : World} {A : Option Addr} {c : Nat} {l : List UInt8} (M : Nat) (hr : RB W W.heap.size A l) (hc : l.length ≤ c ∧ c ≤ 9223372036854775807) (hM : M ≤ 100000) :
    ∃ l', l'.length ≤ M ∧ RB W W.heap.size A l' ∧ l'.length ≤ c ∧ ∀ w, Calls Try.prog 39 #[.slice A l.length c, .int .i64 (M : Int)] w fun e w' => e = .returned (.slice A l'.length c) ∧ w = w' :=
  ⟨l.take M, by rw [List.length_take]; omega, hr.cut M, by rw [List.length_take]; omega, fun w => cut03_any w A l c M hc hM⟩
theorem size03 (n : Nat) (h : n ≤ 65536) (w : World) : Calls Try.prog 48 #[.int .i64 (n : Int)] w fun e w' => e = .returned (.int .i64 ((n : Int) + 32)) ∧ w = w' := by
  have h1 : (0 : Int) ≤ n := by omega
  have h2 : (n : Int) ≤ 65536 := by omega
  have h3 : decide (65536 < (n : Int)) = false := by simp; omega
  clear h
  go_enter Try.func48, Try.ntmps48
  go_wp2
  go_ret
  exact ⟨rfl, rfl⟩
theorem masked03 (A : Option Addr) (n c : Nat) (h : n ≤ 1000000) (w : World) : Calls Try.prog 49 #[.slice A (n + 32) c] w fun e w' => e = .returned (.int .i64 (n : Int)) ∧ w = w' := by
  have h1 : (0 : Int) ≤ n := by omega
  have h2 : (n : Int) ≤ 1000000 := by omega
  have h3 : max (n : Int) 0 = n := by omega
  have h4 : ¬ (n : Int) < 0 := by omega
  clear h
  go_enter Try.func49, Try.ntmps49
  go_wp2
  go_ret
  exact ⟨rfl, rfl⟩
end Go.Proofs.Ytiakgohipnbdbaa
