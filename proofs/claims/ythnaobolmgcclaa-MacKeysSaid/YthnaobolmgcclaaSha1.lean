/- Contracts of package digest: the closure that turns a word, word, table, begun. -/
import Derived.Test.YthnaobolmgcclaaShaW
import Derived.Test.YthnaobolmgcclaaFresh
import Derived.Test.YthnaobolmgcclaaArr
import Derived.Deep.QuietTactic
import Derived.BigQuiet
import Derived.Deep.LoopGhost
import Derived.Deep.RegionWith
import Derived.Great.BuildSlice
namespace Go.Proofs.Ythnaobolmgcclaa
set_option linter.unusedVariables false
open Go.RowKit

theorem turned_any (x : Wd) (a b c : Nat) (ha : 0 < a ∧ a < 32) (hb : 0 < b ∧ b < 32) (hc : 0 < c ∧ c < 32) (w : World) :
    Calls Try.prog 106 #[W x, .int .i64 (a : Int), .int .i64 (b : Int), .int .i64 (c : Int)] w fun e w' => e = .returned (W (rr x a ^^^ rr x b ^^^ rr x c)) ∧ w = w' := by
  obtain ⟨ha0, ha1⟩ := ha
  obtain ⟨hb0, hb1⟩ := hb
  obtain ⟨hc0, hc1⟩ := hc
  have r1 := fun w => rotl x a (32 - a) (by omega) ha0 (by omega) w
  have r2 := fun w => rotl x b (32 - b) (by omega) hb0 (by omega) w
  have r3 := fun w => rotl x c (32 - c) (by omega) hc0 (by omega) w
  have x1 := fun (a b : Wd) (w : World) => W_xor (P := Try.prog) 56 a b w
  have na : (a : Int) ≤ 32 := by omega
  have nb : (b : Int) ≤ 32 := by omega
  have nc : (c : Int) ≤ 32 := by omega
  clear ha0 ha1 hb0 hb1 hc0 hc1
  go_enter Try.func106, Try.ntmps106
  go_wp2_with (first | ((with_reducible refine (r1 _).mono ?_); rintro e w' ⟨rfl, rfl⟩) | ((with_reducible refine (r2 _).mono ?_); rintro e w' ⟨rfl, rfl⟩) | ((with_reducible refine (r3 _).mono ?_); rintro e w' ⟨rfl, rfl⟩))
  go_ret
  exact ⟨rfl, rfl⟩

set_option maxRecDepth 100000 in
theorem info_arr64 : (Try.prog.info? 57).map (·.size) = some (kTab.map W).toArray.size := by kernel_rfl
set_option maxRecDepth 100000 in
theorem kTab_one : (kTab.map W).toArray.all (·.oneCell') = true := by kernel_rfl
theorem h0_one : (h0.l.map W).toArray.all (·.oneCell') = true := by kernel_rfl
theorem info_h8 : (Try.prog.info? 65).map (·.size) = some (h0.l.map W).toArray.size := by kernel_rfl
set_option maxRecDepth 100000 in
theorem table_any (w : World) : Calls Try.prog 105 #[] w fun e w' => e = .returned (.agg (kTab.map W).toArray) ∧ Below w.heap.size w w' := by
  obtain ⟨K, hK⟩ : ∃ K : Array Value, K = (kTab.map W).toArray := ⟨_, rfl⟩
  have HI2 := Lib.hid info_arr64
  have H1 := Lib.hid kTab_one
  rw [← hK] at HI2 H1
  have HK := Lib.hid hK
  have HS := Lib.hid (show K.size = 64 by rw [hK]; rfl)
  rw [← hK]
  clear hK
  go_enter Try.func105, Try.ntmps105
  go_wp2_with (first | refine wpList_buildTo rfl 57 _ rfl (some 1) rfl K (by rw [HK.out]; as_aux_lemma => kernel_rfl) ?_ | refine wpList_store_row rfl _ _ _ rfl w.heap.size K rfl rfl 57 _ (heap_alloc_last _ _) HI2.out (by rw [HS.out]; rfl) H1.out ?_)
  refine bodyPost_ret (results_cell_row rfl _ _ w.heap.size 57 _ (0, 0) _ rfl (setRow_heap _ _ _ _ _ _ (heap_alloc_last _ _)) Try.underlying57 rfl HI2.out) rfl ⟨rfl, ?_⟩
  rw [World.setRow_alloc_new]
  exact (Below.refl _ _).alloc (Nat.le_refl _) _
set_option maxRecDepth 100000 in
theorem begun_any (w : World) : Calls Try.prog 82 #[] w fun e w' => e = .returned (.agg (h0.l.map W).toArray) ∧ Below w.heap.size w w' := by
  obtain ⟨K, hK⟩ : ∃ K : Array Value, K = (h0.l.map W).toArray := ⟨_, rfl⟩
  have HI2 := Lib.hid info_h8
  have H1 := Lib.hid h0_one
  rw [← hK] at HI2 H1
  have HK := Lib.hid hK
  have HS := Lib.hid (show K.size = 8 by rw [hK]; rfl)
  rw [← hK]
  clear hK
  go_enter Try.func82, Try.ntmps82
  go_wp2_with (first | refine wpList_buildTo rfl 58 _ rfl (some 1) rfl K (by rw [HK.out]; as_aux_lemma => kernel_rfl) ?_ | refine wpList_buildTo rfl 65 _ rfl (some 2) rfl K (by rw [HK.out]; as_aux_lemma => kernel_rfl) ?_ | refine wpList_store_row rfl _ _ _ rfl w.heap.size K rfl rfl 65 _ (heap_alloc_last _ _) HI2.out (by rw [HS.out]; rfl) H1.out ?_)
  refine bodyPost_ret (results_cell_row rfl _ _ w.heap.size 65 _ (0, 0) _ rfl (setRow_heap _ _ _ _ _ _ (heap_alloc_last _ _)) Try.underlying65 rfl HI2.out) rfl ⟨rfl, ?_⟩
  rw [World.setRow_alloc_new]
  exact (Below.refl _ _).alloc (Nat.le_refl _) _
set_option maxRecDepth 100000 in
theorem wordOf_eq (p q r s : UInt8) : ((BitVec.ofNat 32 p.toNat <<< 24 ||| BitVec.ofNat 32 q.toNat <<< 16) ||| BitVec.ofNat 32 r.toNat <<< 8) ||| BitVec.ofNat 32 s.toNat = wordOf p q r s := by
  have hp := p.toNat_lt
  have hq := q.toNat_lt
  have hr := r.toNat_lt
  have hs := s.toNat_lt
  apply BitVec.eq_of_toNat_eq
  unfold wordOf
  simp only [BitVec.toNat_or, BitVec.toNat_shiftLeft, BitVec.toNat_ofNat]
  rw [Nat.mod_eq_of_lt (a := p.toNat) (by omega), Nat.mod_eq_of_lt (a := q.toNat) (by omega), Nat.mod_eq_of_lt (a := r.toNat) (by omega), Nat.mod_eq_of_lt (a := s.toNat) (by omega)]
  simp only [Nat.shiftLeft_eq]
  rw [Nat.mod_eq_of_lt (a := p.toNat * 2 ^ 24) (by omega), Nat.mod_eq_of_lt (a := q.toNat * 2 ^ 16) (by omega), Nat.mod_eq_of_lt (a := r.toNat * 2 ^ 8) (by omega)]
  have e1 : p.toNat * 2 ^ 24 ||| q.toNat * 2 ^ 16 = (p.toNat * 256 + q.toNat) * 2 ^ 16 := by
    have := Nat.shiftLeft_add_eq_or_of_lt (i := 24) (b := q.toNat * 2 ^ 16) (by omega) p.toNat
    rw [Nat.shiftLeft_eq] at this
    rw [← this]
    omega
  have e2 : (p.toNat * 256 + q.toNat) * 2 ^ 16 ||| r.toNat * 2 ^ 8 = ((p.toNat * 256 + q.toNat) * 256 + r.toNat) * 2 ^ 8 := by
    have := Nat.shiftLeft_add_eq_or_of_lt (i := 16) (b := r.toNat * 2 ^ 8) (by omega) (p.toNat * 256 + q.toNat)
    rw [Nat.shiftLeft_eq] at this
    rw [← this]
    omega
  have e3 : ((p.toNat * 256 + q.toNat) * 256 + r.toNat) * 2 ^ 8 ||| s.toNat = ((p.toNat * 256 + q.toNat) * 256 + r.toNat) * 2 ^ 8 + s.toNat := by
    have := Nat.shiftLeft_add_eq_or_of_lt (i := 8) (b := s.toNat) (by omega) ((p.toNat * 256 + q.toNat) * 256 + r.toNat)
    rw [Nat.shiftLeft_eq] at this
    rw [← this]
  rw [e1, e2, e3]
  omega

set_option maxHeartbeats 800000 in
theorem word_any (g o n c : Nat) (p q r s : UInt8) (w : World) (hn : 4 ≤ n)
    (c0 : w.cell? ⟨g, o, none⟩ = some (.int .u8 (p.toNat : Int))) (c1 : w.cell? ⟨g, o + 1, none⟩ = some (.int .u8 (q.toNat : Int)))
    (c2 : w.cell? ⟨g, o + 2, none⟩ = some (.int .u8 (r.toNat : Int))) (c3 : w.cell? ⟨g, o + 3, none⟩ = some (.int .u8 (s.toNat : Int))) :
    Calls Try.prog 110 #[.slice (some ⟨g, o, none⟩) n c] w fun e w' => e = .returned (W (wordOf p q r s)) ∧ ∃ k, w' = w.drewN k := by
  have hv : ∀ (b : UInt8) (w : World), (convert 5 56 (.int .u8 (b.toNat : Int))).run Try.prog w = .ok (W (BitVec.ofNat 32 b.toNat)) w := by
    intro b w
    have hb := b.toNat_lt
    have e : IntKind.u32.wrap (b.toNat : Int) = (BitVec.ofNat 32 b.toNat).toNat := by
      rw [wrap_u32, BitVec.toNat_ofNat]
      omega
    have : (convert 5 56 (.int .u8 (b.toNat : Int))).run Try.prog w = .ok (.int .u32 (IntKind.u32.wrap (b.toNat : Int))) w := by go_simp
    rw [this, e]
    rfl
  have s24 : ∀ (x : Wd) (w : World), (binOp .shl 56 (W x) (.int .u64 24)).run Try.prog w = .ok (W (x <<< 24)) w := fun x w => W_shl 56 x w .u64 24 (by decide)
  have s16 : ∀ (x : Wd) (w : World), (binOp .shl 56 (W x) (.int .u64 16)).run Try.prog w = .ok (W (x <<< 16)) w := fun x w => W_shl 56 x w .u64 16 (by decide)
  have s8 : ∀ (x : Wd) (w : World), (binOp .shl 56 (W x) (.int .u64 8)).run Try.prog w = .ok (W (x <<< 8)) w := fun x w => W_shl 56 x w .u64 8 (by decide)
  have or1 := fun (a b : Wd) (w : World) => W_or (P := Try.prog) 56 a b w
  have HW := Lib.hid (wordOf_eq p q r s)
  have i0 : 0 < n := by omega
  have i1 : (1 : Int) < n := by omega
  have i2 : (2 : Int) < n := by omega
  have i3 : (3 : Int) < n := by omega
  go_enter Try.func110, Try.ntmps110
  go_wp2
  go_quiet (fail)
  go_wp2
  go_ret
  exact ⟨by rw [← HW.out]; rfl, _, rfl⟩
end Go.Proofs.Ythnaobolmgcclaa
