/- Packets: the reader's raw bytes. -/
import Derived.Test.YtnbemfceoianiaaPkB
import Derived.Test.YtnbemfceoianiaaRd4
import Derived.Test.YtnbemfceoianiaaRdL
import Derived.Test.YtnbemfceoianiaaCl6
namespace Go.Proofs.Ytnbemfceoianiaa
set_option linter.unusedVariables false
set_option linter.unusedSimpArgs false
open Go.RowKit
/-- The reader's state behind n bytes that were read one by one; these bytes. -/
def rawS (st : RS) : Nat → RS
  | 0 => st
  | k + 1 => nS (rawS st k) 0
def rawB (st : RS) : Nat → List UInt8
  | 0 => []
  | k + 1 => rawB st k ++ [UInt8.ofNat (nV (rawS st k) 0).toNat]
theorem rawB_length (st : RS) : ∀ n, (rawB st n).length = n
  | 0 => rfl
  | n + 1 => by rw [rawB, List.length_append, rawB_length st n]; rfl
theorem nV0_le (st : RS) : 0 ≤ nV st 0 ∧ nV st 0 ≤ 255 := by
  unfold nV
  rw [if_neg (by decide)]
  unfold getF
  rw [if_neg (by decide), if_pos (by decide)]
  split
  · have h1 : numV st (widB 0) ≤ 255 := by
      unfold numV
      split
      · omega
      · have := valB_lt (takeR st (widB 0))
        have h2 := takeR_len2 st (widB 0)
        have h3 : 256 ^ (takeR st (widB 0)).length ≤ 256 ^ 1 := Nat.pow_le_pow_right (by decide) h2
        omega
    exact ⟨by show (0 : Int) ≤ (numV st (widB 0) : Int); omega, by show (numV st (widB 0) : Int) ≤ 255; omega⟩
  · exact ⟨by decide, by decide⟩
set_option maxRecDepth 100000 in
set_option maxHeartbeats 4000000 in
theorem raw_any (W w : World) (xb : Bl) (xr : List Ro) (bl : Bl) (ow : List Ro) (gr : Nat) (st : RS) (hR : RrX W xb xr bl ow gr st w) (n : Nat) (hn : n ≤ 1000) :
    Calls Try.prog 35 #[.agg #[.pointer (some ⟨gr, 0, none⟩)], .int .i64 n] w fun e w' => ∃ A c, e = .returned (.slice A n c) ∧ RrX W xb (⟨5, 1, .slice A n c, n, by8 (rawB st n)⟩ :: xr) bl ow gr (rawS st n) w' := by
  have h1 := (hR.newb 78 #[.pointer (some ⟨gr, 0, none⟩)]).nilr 5 1
  have HR0 := Lib.hid h1
  obtain ⟨g, hg⟩ : ∃ g, w.heap.size = g := ⟨_, rfl⟩
  rw [hg] at HR0
  have HCE := Lib.hid (show ∀ w' xr' st', RrX W ((g, 78, #[.pointer (some ⟨gr, 0, none⟩)]) :: xb) xr' bl ow gr st' w' → w'.cell? ⟨g, 0, none⟩ = some (.pointer (some ⟨gr, 0, none⟩)) from fun w' xr' st' h => (h.blk (x := (g, 78, #[.pointer (some ⟨gr, 0, none⟩)])) (List.mem_append_left _ (List.mem_cons_self ..))).cell 0)
  clear h1 hR
  go_enter Try.func35, Try.ntmps35
  go_wp2_with fail
  clear hg
  go_loopg [5, 7] n (fun gg s5 s7 wr => ∃ (k : Nat) (v : Value), k + gg = n ∧ s7 = .int .i64 k ∧ s5 = v ∧ RrX W ((g, 78, #[.pointer (some ⟨gr, 0, none⟩)]) :: xb) (⟨5, 1, v, k, by8 (rawB st k)⟩ :: xr) bl ow gr (rawS st k) wr)
  case atStart => exact ⟨0, _, by omega, rfl, rfl, HR0.out⟩
  case round =>
    obtain ⟨k, v, hk, rfl, rfl, hR⟩ := hrel
    have HR := Lib.hid hR
    clear HR0 hR
    by_cases hlt : k < n
    · have c0 := HCE.out _ _ _ HR.out
      have HC := Lib.hid (rdnum_any W wr _ _ bl ow gr (rawS st k) HR.out 0)
      obtain ⟨i5, i6⟩ := nV0_le (rawS st k)
      have w1 : IntKind.u8.wrap (nV (rawS st k) 0) = nV (rawS st k) 0 := IntWalk.u8_in _ (by omega)
      have HB := Lib.hid (show by8 (rawB st (k + 1)) = by8 (rawB st k) ++ [.int .u8 (nV (rawS st k) 0)] from by
        rw [rawB, by8_append]
        congr 1
        simp only [by8, List.map_cons, List.map_nil, List.cons.injEq, Value.int.injEq, true_and, and_true]
        rw [UInt8.toNat_ofNat']
        omega)
      have HSN := Lib.hid (show rawS st (k + 1) = nS (rawS st k) 0 from rfl)
      obtain ⟨m, hm⟩ : ∃ m, nV (rawS st k) 0 = m := ⟨_, rfl⟩
      rw [hm] at HC i5 i6 w1 HB
      have j1 : (k : Int) < n := by omega
      have j2 : (0 : Int) ≤ k := by omega
      clear hm
      go_wp2_with fail
      with_reducible refine (HC.out).mono ?_
      rintro r w2 ⟨rfl, hR⟩
      rw [← HSN.out] at hR
      obtain ⟨Aq, cq, hmm, hs, hc1, hc2⟩ := hR
      have HQ := Lib.hid (And.intro hs (And.intro hc1 hc2))
      have M2 := Lib.hid (show Mst W w2 ((gr, 104, #[.slice Aq (rawS st (k + 1)).1.length cq, .int .i64 (rawS st (k + 1)).2]) :: (((g, 78, #[.pointer (some ⟨gr, 0, none⟩)]) :: xb) ++ bl)) ([] ++ ⟨5, 1, _, k, by8 (rawB st k)⟩ :: (xr ++ ow)) from hmm)
      clear hmm hs hc1 hc2 c0 HR HC
      go_wp2_with (at_builtin; refine wpList_appEP rfl _ _ 26 rfl [] (M2.out.alloc _) el_u8 rfl _ _ 1 1 _ rfl (Rd.new1 _ #[.int .u8 m] _ rfl) (by simp [Value.oneCell']) (by unfold maxLen; omega) (by omega) ?_; intro A7 c7 w7 N7 X7 hn7 hx7 mq; have M7 := Lib.hid mq; have HN7 := Lib.hid hn7; have HX7 := Lib.hid hx7; clear mq hn7 hx7)
      go_roundg (n - (k + 1))
      case measure => exact meas hk hlt
      case rel =>
        refine ⟨k + 1, .slice A7 N7 c7, meas2 hlt, by go_num, rfl, ?_⟩
        obtain ⟨hs, hc1, hc2⟩ := HQ.out
        have m7 := M7.out
        rw [HX7.out, HN7.out, ← HB.out] at m7
        rw [HN7.out]
        exact ⟨Aq, cq, m7, hs, hc1, hc2⟩
    · obtain rfl : k = n := by omega
      have hR := HR.out
      obtain ⟨Aq, cq, hmm, -⟩ := hR
      obtain ⟨A7, c7, rfl, -⟩ := own_form (hmm.row [])
      have HD := Lib.hid (HR.out.dropb)
      clear hlt hk hmm
      go_wp2_with fail
      go_ret
      exact ⟨A7, c7, rfl, HD.out⟩
end Go.Proofs.Ytnbemfceoianiaa
