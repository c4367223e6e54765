/- Contracts of package cookie: a counter, check, Epoch, Ends, New, Counts. -/
import Derived.Test.YtiakgohipnbdbaaKeyA
import Derived.Laws.LoneSync
namespace Go.Proofs.Ytiakgohipnbdbaa
set_option linter.unusedVariables false
set_option linter.unusedSimpArgs false
open Go.RowKit

theorem load_any (b o : Nat) (x : Int) (w : World) (hc : w.cell? ⟨b, o, none⟩ = some (.int .i64 x)) :
    Calls Try.prog 68 #[.pointer (some ⟨b, o, none⟩)] w fun e w' => e = .returned (.int .i64 x) ∧ w' = w := by
  have hl := run_call_load (P := Try.prog) Try.func86 (by kernel_rfl) (by kernel_rfl) (by kernel_rfl) .i64 (by kernel_rfl) hc
  go_enter Try.func68, Try.ntmps68
  go_wp2
  go_ret
  exact ⟨rfl, rfl⟩
theorem addi_any (b o : Nat) (x : Int) (w : World) (hc : w.cell? ⟨b, o, none⟩ = some (.int .i64 x)) (hf : w.frozen? ⟨b, o, none⟩ = false) (h0 : 0 ≤ x) (h1 : x < 2147483647) :
    Calls Try.prog 82 #[.pointer (some ⟨b, o, none⟩), .int .i64 1] w fun e w' => e = .returned (.int .i64 (x + 1)) ∧ w' = w.setCell ⟨b, o, none⟩ (.int .i64 (x + 1)) := by
  have hs : (Op.intArith .add .i64 x 1).run Try.prog w = .ok (.int .i64 (x + 1)) w := by
    simp only [Op.intArith, Sem.run_pure]
    rw [show IntKind.i64.wrap (x + 1) = x + 1 by rw [IntKind.wrap_i64]; omega]
  have hl := run_call_add (P := Try.prog) Try.func98 (by kernel_rfl) (by kernel_rfl) (by kernel_rfl) .i64 (by kernel_rfl) hc hf hs
  go_enter Try.func82, Try.ntmps82
  go_wp2
  go_ret
  exact ⟨rfl, rfl⟩
/-- One more, as far as it goes. -/
theorem count_any (b o : Nat) (x : Int) (w : World) (hc : w.cell? ⟨b, o, none⟩ = some (.int .i64 x)) (hf : w.frozen? ⟨b, o, none⟩ = false) (h0 : 0 ≤ x) (h1 : x < 2147483647) :
    Calls Try.prog 63 #[.pointer (some ⟨b, o, none⟩)] w fun e w' => e = .returned (.tuple #[]) ∧ w' = w.setCell ⟨b, o, none⟩ (.int .i64 (x + 1)) := by
  have HL := Lib.hid (load_any b o x w hc)
  have HA := Lib.hid (addi_any b o x w hc hf h0 h1)
  go_enter Try.func63, Try.ntmps63
  go_wp2_with fail
  refine HL.out.mono ?_
  rintro e w1 ⟨rfl, rfl⟩
  go_wp2_with fail
  refine HA.out.mono ?_
  rintro e w1 ⟨rfl, rfl⟩
  go_wp2
  go_end0
  exact ⟨rfl, rfl⟩
theorem epoch_any (t : Int) (h0 : -9223372036854775808 ≤ t) (h : t ≤ 9223372036854775807) (w : World) :
    Calls Try.prog 34 #[.int .i64 t] w fun e w' => e = .returned (.int .i64 (max t 0 / 64)) ∧ w' = w := by
  obtain ⟨m, hm⟩ : ∃ m, max t 0 = m := ⟨_, rfl⟩
  have h1 : 0 ≤ m := by omega
  have h2 : m ≤ 9223372036854775807 := by omega
  rw [hm]
  go_enter Try.func34, Try.ntmps34
  go_wp2
  go_ret
  exact ⟨rfl, rfl⟩
/-- The epoch of a tick. -/
theorem epoch_nat (t : Nat) (h : t ≤ 2000000000) (w : World) :
    Calls Try.prog 34 #[.int .i64 (t : Int)] w fun e w' => e = .returned (.int .i64 ((t / 64 : Nat) : Int)) ∧ w' = w := by
  have := epoch_any t (by omega) (by omega) w
  rw [show max (t : Int) 0 / 64 = ((t / 64 : Nat) : Int) by omega] at this
  exact this
theorem ends_any (t : Nat) (h : t ≤ 2000000000) (w : World) :
    Calls Try.prog 35 #[.int .i64 (t : Int)] w fun e w' => e = .returned (.int .i64 ((64 * (t / 64 + 2) : Nat) : Int)) ∧ w' = w := by
  have HE := Lib.hid (epoch_nat t h w)
  obtain ⟨m, hm⟩ : ∃ m, t / 64 = m := ⟨_, rfl⟩
  rw [hm] at HE ⊢
  have h1 : (m : Int) ≤ 2000000000 := by omega
  have h2 : (0 : Int) ≤ m := by omega
  clear hm
  go_enter Try.func35, Try.ntmps35
  go_wp2_with fail
  refine HE.out.mono ?_
  rintro e w1 ⟨rfl, rfl⟩
  go_wp2
  go_ret
  exact ⟨by rw [show ((64 * (m + 2) : Nat) : Int) = ((m : Int) + 2) * 64 by omega]; rfl, rfl⟩
/-- May there be a cookie? -/
def okCk (address tick : Int) : Bool := decide (0 ≤ address ∧ address < 65536 ∧ 0 ≤ tick ∧ tick ≤ 1073741824)
theorem refright_any (a t : Int) (w : World) : Calls Try.prog 29 #[.int .i64 a, .int .i64 t] w fun e w' => e = .returned (.bool (okCk a t)) ∧ w' = w := by
  by_cases h1 : 0 ≤ a
  · by_cases h2 : a < 65536
    · by_cases h3 : 0 ≤ t
      · by_cases h4 : t ≤ 1073741824
        · have HK := Lib.hid (show okCk a t = true by simp [okCk, h1, h2, h3, h4])
          rw [HK.out]
          go_enter Try.func29, Try.ntmps29
          go_wp2
          go_ret
          exact ⟨rfl, rfl⟩
        · have HK := Lib.hid (show okCk a t = false by simp [okCk, h4])
          rw [HK.out]
          go_enter Try.func29, Try.ntmps29
          go_wp2
          go_ret
          exact ⟨rfl, rfl⟩
      · have HK := Lib.hid (show okCk a t = false by simp [okCk, h3])
        rw [HK.out]
        go_enter Try.func29, Try.ntmps29
        go_wp2
        go_ret
        exact ⟨rfl, rfl⟩
    · have HK := Lib.hid (show okCk a t = false by simp [okCk, h2])
      rw [HK.out]
      go_enter Try.func29, Try.ntmps29
      go_wp2
      go_ret
      exact ⟨rfl, rfl⟩
  · have HK := Lib.hid (show okCk a t = false by simp [okCk, h1])
    rw [HK.out]
    go_enter Try.func29, Try.ntmps29
    go_wp2
    go_ret
    exact ⟨rfl, rfl⟩
theorem ckcheck_nil (a t : Int) (w : World) : Calls Try.prog 62 #[.pointer none, .int .i64 a, .int .i64 t] w fun e w' => e = .returned (.int .i64 11) ∧ w' = w := by
  go_enter Try.func62, Try.ntmps62
  go_wp2
  go_ret
  exact ⟨rfl, rfl⟩
theorem ckcheck_any (g : Nat) (a t : Int) (w : World) : Calls Try.prog 62 #[.pointer (some ⟨g, 0, none⟩), .int .i64 a, .int .i64 t] w fun e w' => e = .returned (.int .i64 (if okCk a t then 0 else 10)) ∧ w' = w := by
  by_cases h1 : a < 0
  · have HK := Lib.hid (show okCk a t = false by simp [okCk]; omega)
    rw [HK.out]
    go_enter Try.func62, Try.ntmps62
    go_wp2
    go_ret
    exact ⟨rfl, rfl⟩
  · by_cases h2 : 65535 < a
    · have HK := Lib.hid (show okCk a t = false by simp [okCk]; omega)
      rw [HK.out]
      go_enter Try.func62, Try.ntmps62
      go_wp2
      go_ret
      exact ⟨rfl, rfl⟩
    · by_cases h3 : t < 0
      · have HK := Lib.hid (show okCk a t = false by simp [okCk]; omega)
        rw [HK.out]
        go_enter Try.func62, Try.ntmps62
        go_wp2
        go_ret
        exact ⟨rfl, rfl⟩
      · by_cases h4 : 1073741824 < t
        · have HK := Lib.hid (show okCk a t = false by simp [okCk]; omega)
          rw [HK.out]
          go_enter Try.func62, Try.ntmps62
          go_wp2
          go_ret
          exact ⟨rfl, rfl⟩
        · have HK := Lib.hid (show okCk a t = true by simp [okCk]; omega)
          rw [HK.out]
          go_enter Try.func62, Try.ntmps62
          go_wp2
          go_ret
          exact ⟨rfl, rfl⟩
/-- A baker's cells. -/
def bkc (x y : Int) (gk : Nat) : Array Value := #[.int .i64 x, .int .i64 y, .pointer (some ⟨gk, 0, none⟩)]
theorem counts_nil (w : World) : Calls Try.prog 37 #[.pointer none] w fun e w' => e = .returned (.tuple #[.int .i64 0, .int .i64 0]) ∧ w' = w := by
  go_enter Try.func37, Try.ntmps37
  go_wp2
  go_ret2
  exact ⟨rfl, rfl⟩
set_option maxRecDepth 100000 in
set_option maxHeartbeats 1000000 in
theorem cknew_M (W w : World) (bl : Bl) (ow : List Ro) (hm : Mst W w bl ow) (A : Option Addr) (c : Nat) (kb : List UInt8) (hr : RB w w.heap.size A kb) (hk : kb.length ≤ 100000) (h16 : 16 ≤ kb.length) :
    Calls Try.prog 38 #[.slice A kb.length c] w fun e w' => ∃ gb gk A' c', e = .returned (.tuple #[.pointer (some ⟨gb, 0, none⟩), .int .i64 0]) ∧
      Mst W w' ((gb, 117, bkc 0 0 gk) :: (gk, 128, #[.slice A' kb.length c']) :: bl) (⟨5, 1, .slice A' kb.length c', kb.length, by8 kb⟩ :: ow) := by
  have HN := Lib.hid (new_M W w bl ow hm A c kb hr hk)
  obtain ⟨n, hn⟩ : ∃ n, kb.length = n := ⟨_, rfl⟩
  rw [hn] at HN h16 ⊢
  have i1 : ¬ (n : Int) < 16 := by omega
  clear hr hm hn
  go_enter Try.func38, Try.ntmps38
  go_wp2_with fail
  refine HN.out.mono ?_
  rintro e w1 ⟨gk, A', c', rfl, m1⟩
  have M2 := Lib.hid (m1.new 117 (bkc 0 0 gk))
  clear m1
  go_wp2
  go_ret2
  exact ⟨_, gk, A', c', rfl, M2.out⟩
theorem cknew_no (w : World) (A : Option Addr) (n c : Nat) (h : n < 16) :
    Calls Try.prog 38 #[.slice A n c] w fun e w' => e = .returned (.tuple #[.pointer none, .int .i64 1]) ∧ w' = w := by
  have i1 : (n : Int) < 16 := by omega
  go_enter Try.func38, Try.ntmps38
  go_wp2
  go_ret2
  exact ⟨rfl, rfl⟩
end Go.Proofs.Ytiakgohipnbdbaa
